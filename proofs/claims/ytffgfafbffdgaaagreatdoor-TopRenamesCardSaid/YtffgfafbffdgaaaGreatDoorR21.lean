/- Lemmas and contracts of functions, several texts in one. -/
import Derived.Test.YtffgfafbffdgaaaGreatDoorR20
set_option maxRecDepth 100000
set_option maxHeartbeats 4000000
set_option linter.all false
namespace Go.Proofs.YtffgfafbffdgaaaGreatDoor
open Go.RowKit
open Tryz
variable {b i:Nat}{l d:List Int}{H0 H:aA}
def EqI (l m:List Int) (i:Nat) (s:St):Prop:=s.df=[]/\s.fr 0=.seq 1 (l.map iD)/\s.fr 1=.seq 1 (m.map iD)/\s.fr 12=i64 l.length/\s.fr 13=i64 i/\s.H=aA.none/\l.take i=m.take i
theorem Np (l m:List Int)(hl:l.length<=140737488351232):aN prog 338 [.seq 1 (l.map iD),.seq 1 (m.map iD)] .none λd _=>d=.val (.bool (decide (l=m))):=by
 have h:=lm iD l;have j:=lm iD m;refine dO func338 ntmps338 results338 λK I Q w=>?_;by_cases z:l.length=m.length
 case neg=>
  have q:=nF ((l.length:Int)=(m.length:Int));refine ur w (bQ h j q) trivial ?_;exact⟨_,aF _,by rw[af λe=>z (by rw[e])]⟩
 have q:=nT ((l.length:Int)=(m.length:Int));have G:(m.length:Int)=(l.length:Int):=by omega
 refine tn (bQ h j q) ?_;refine aO l.length (EqI l m) ⟨rfl,rfl,rfl,rfl,rfl,rfl,by simp⟩ ?_;rintro i s J ⟨k,x,y,f,a,E,n⟩;have A:=aX i;have o:=aZ i;by_cases c:i<l.length
 case neg=>
  have v:=lF i l.length;rw[bK (by omega),bK (by omega)] at n;refine ur w (bQ f a v) k ?_;exact⟨_,aF _,by rw[ah n]⟩
 have v:=lT i l.length;have g:i<m.length:=by omega
 have p:=bT c;have r:=bT g;have B:=wS i;by_cases u:l[i]=m[i]
 ·have t:(l[i]=m[i])=True:=aG u
  refine tq (bQ f a v) ?_;intro U Y O C;refine dE (λ_ _ _ _=>False) λU Y=>?_;refine dst (bG x y h j p r A (cA o c g t)) ?_;intro U Y O C;refine tq (bQ a B t) ?_;intro U Y O C;refine⟨c,k,x,y,f,rfl,E,?_⟩;rw[bw c,bw g,n,u]
 ·have t:(l[i]=m[i])=False:=aI u
  refine tq (bQ f a v) ?_;intro U Y O C;refine dE (λ_ _ _ _=>False) λU Y=>?_;refine dst (bG x y h j p r A (cA o c g t)) ?_;intro U Y O C;refine ur w (bQ a B t) k ?_;exact⟨_,aF _,by rw[af];rintro rfl;exact u rfl⟩
theorem LP (H:aA)(l m:List Int)(hl:l.length<=140737488351232):aN prog 338 [.seq 1 (l.map iD),.seq 1 (m.map iD)] H λd H'=>d=.val (.bool (decide (l=m)))/\H=H':=
 qf (Np l m hl) rfl (MM (iU _ _) (iU _ _))
theorem qK:∀{l m:List Int},l.Pairwise (·<·)->m.Pairwise (·<·)->(∀x,x∈l↔x∈m)->l=m
 |[],[],_,_,_=>rfl
 |[],b::m,_,_,h=>by have:=(h b).2 (by simp);simp at this
 |a::l,[],_,_,h=>by have:=(h a).1 (by simp);simp at this
 |a::l,b::m,h1,h2,h=>by
  rw[oa] at h1 h2;have f:a=b:=by
   have ha:=(h a).1 (by simp);have hb:=(h b).2 (by simp);rcases bV.1 ha with e|ha
   ·exact e
   rcases bV.1 hb with e|hb
   ·exact e.symm
   have:=h1.1 b hb;have:=h2.1 a ha;omega
  subst f;rw[qK h1.2 h2.2 λx=>?_];constructor
  ·intro c
   have:=h1.1 x c;rcases bV.1 ((h x).1 (dH _ c)) with e|h
   ·omega
   ·exact h
  ·intro c
   have:=h2.1 x c;rcases bV.1 ((h x).2 (dH _ c)) with e|h
   ·omega
   ·exact h
theorem KD {a b:bp}:a=b↔a.k=b.k/\a.m=b.m/\a.r=b.r/\a.e=b.e/\a.ar=b.ar:=by cases a;cases b;simp
theorem Eb {m:List Int}(h:l.take i=m.take i)(h1:i<l.length)(h2:i<m.length)(a:l[i]=m[i]):l.take (i+1)=m.take (i+1):=by rw[bw h1,bw h2,h,a]
theorem O6 (a b:bp)(H:aA)(a1:a.ar.length<=140737488351232):aN prog 33 [.agg (bS a),.agg (bS b)] H λd H'=>d=.val (.bool (decide (a=b)))/\H=H':=by
 refine aq (K:=λd=>d=.val (.bool (decide (a=b)))) ?_;obtain⟨n,o,ar,m,f⟩:=a;obtain⟨r,t,u,p,g⟩:=b;have j:=KD (a:=⟨n,o,ar,m,f⟩) (b:=⟨r,t,u,p,g⟩);simp only at j a1;simp only[bS];have k:=lm iD f;have y:=lm iD g;have I:=aF H;refine dO func33 ntmps33 results33 λw0 g0 Q A=>?_;refine t0 ?_;intro U Y O C;intro c2 a2 M S;have Z:c2≠M:=lj (aK _ _ _) S;have a0:H M=none:=(bF.1 S).2;refine Y _ ?_;refine dZ 2 rfl ((aJ Z).trans (aK _ _ _)) rfl ?_;refine dZ 3 rfl ((bL Z.symm).trans (aK _ _ _)) rfl ?_;refine lB H (λx z hz=>?_) ?_
 ·have e1:x≠c2:=λe=>by rw[e,a2] at hz;cases hz
  have e2:x≠M:=λe=>by rw[e,a0] at hz;cases hz
  show((((H.aU c2 _).aU M _).del c2).del M) x=_;rw[bL e2,bL e1,aJ e2,aJ e1];exact hz
 simp only[St.ku,List.drop];by_cases g1:n=r
 case neg=>
  have G:(n=r)=False:=aI g1;have c:decide ((⟨n,o,ar,m,f⟩:bp)=⟨r,t,u,p,g⟩)=false:=af λh=>g1 (j.1 h).1;refine ur A G trivial ?_;exact zf I (by rw[c])
 have G:(n=r)=True:=aG g1;by_cases g2:o=t
 case neg=>
  have J:(o=t)=False:=aI g2;have c:decide ((⟨n,o,ar,m,f⟩:bp)=⟨r,t,u,p,g⟩)=false:=af λh=>g2 (j.1 h).2.1;refine ur A (av G J) trivial ?_;exact zf I (by rw[c])
 have J:(o=t)=True:=aG g2;by_cases g3:ar=u
 case neg=>
  have q3:(ar=u)=False:=aI g3;have c:decide ((⟨n,o,ar,m,f⟩:bp)=⟨r,t,u,p,g⟩)=false:=af λh=>g3 (j.1 h).2.2.1;refine ur A (bQ G J q3) trivial ?_;exact zf I (by rw[c])
 have q3:(ar=u)=True:=aG g3;by_cases g4:m=p
 case neg=>
  have q4:(m=p)=False:=aI g4;have c:decide ((⟨n,o,ar,m,f⟩:bp)=⟨r,t,u,p,g⟩)=false:=af λh=>g4 (j.1 h).2.2.2.1;refine ur A (cA G J q3 q4) trivial ?_;exact zf I (by rw[c])
 have q4:(m=p)=True:=aG g4;by_cases g5:f.length=g.length
 case neg=>
  have q5:=nF ((f.length:Int)=(g.length:Int));have c:decide ((⟨n,o,ar,m,f⟩:bp)=⟨r,t,u,p,g⟩)=false:=af λh=>g5 (by rw[(j.1 h).2.2.2.2]);refine ur A (ej k y G J q3 q4 q5) trivial ?_;exact zf I (by rw[c])
 have q5:=nT ((f.length:Int)=(g.length:Int));refine tn (ej k y G J q3 q4 q5) ?_;refine aO f.length (λi s=>s.df=[]/\s.fr 2=.rp [i64 n,.val (.bool o),i64 ar,i64 m,.seq 1 (f.map iD)]/\s.fr 3=.rp [i64 r,.val (.bool t),i64 u,i64 p,.seq 1 (g.map iD)]/\s.fr 5=i64 i/\s.H=H/\f.take i=g.take i) ⟨rfl,rfl,rfl,rfl,rfl,rfl⟩ ?_;rintro i s hi ⟨B,N,f3,P,hH,E⟩;have hx:=aX i;have R:=aZ i;have L:H.le s.H:=by rw[hH];exact I
 by_cases v:i<f.length
 case neg=>
  have q6:=lF i f.length;rw[bK (by omega),bK (by omega)] at E;have c:decide ((⟨n,o,ar,m,f⟩:bp)=⟨r,t,u,p,g⟩)=true:=ah (j.2 ⟨g1,g2,g3,g4,E⟩);refine ur A (cA N P k q6) B ?_;exact zf L (by rw[c])
 have q6:=lT i f.length;have w:i<g.length:=by omega
 have T:=bT v;have V:=bT w;have w3:=wS i;refine tq (cA N P k q6) ?_;intro U Y O C;by_cases he:f[i]=g[i]
 case neg=>
  have q7:(f[i]=g[i])=False:=aI he;have c:decide ((⟨n,o,ar,m,f⟩:bp)=⟨r,t,u,p,g⟩)=false:=af λh=>he (by have:=(j.1 h).2.2.2.2;subst this;rfl);refine dE (λ_ _ _ _=>False) λU Y=>?_;refine dst (bG N f3 P k y T V (cw hx R v w q7)) ?_;intro U Y O C;refine ur A trivial B ?_;exact zf L (by rw[c])
 have q7:(f[i]=g[i])=True:=aG he;refine dE (λ_ _ _ _=>False) λU Y=>?_;refine dst (bG N f3 P k y T V (cw hx R v w q7)) ?_;intro U Y O C;refine tn (av P w3) ?_;exact⟨v,B,N,f3,rfl,hH,Eb E v w he⟩
theorem SY (ts:List bp)(t:bp)(H:aA)(L:ts.length<=140737488351232)(y:∀u∈ts,u.ar.length<=140737488351232):aN prog 186 [.seq 5 (ts.map bS),.agg (bS t)] H λd H'=>d=i64 (oQ t ts 0)/\H=H':=by
 refine aq (K:=λd=>d=i64 (oQ t ts 0)) ?_;have f:=lm bS ts;refine dO func186 ntmps186 results186 λw0 g0 Q E=>?_;refine tq @bS.eq_1 ?_;intro U Y O C;intro c3 z;refine Y _ ?_;refine cm 3 z ?_;refine tz ?_;refine aO ts.length (λi s=>s.df=[]/\s.fr 0=.seq 5 (ts.map bS)/\s.fr 3=.rp (bS t)/\s.fr 5=i64 i/\s.H=H/\oQ t ts 0=oQ t (ts.drop i) i) ⟨rfl,rfl,rfl,rfl,rfl,rfl⟩ ?_;rintro i s hi ⟨j,m,v,k,G,h⟩;have I:=aX i;have n:=aZ i;have e:H.le s.H:=by rw[G];exact aF _
 by_cases a:i<ts.length
 case neg=>
  have B:=lF i ts.length;rw[cb (by omega)] at h;refine ur E (cA m k f B) j ?_;exact⟨_,aF _,e,_,aL e,by rw[h] <;> rfl⟩
 have B:=lT i ts.length;have w3:=wS i;have o:=y ts[i] (ao a);have g:(ts.map bS)[i]?=some (bS ts[i]):=by rw[bg,az a];rfl
 rw[cL a,oQ] at h;obtain⟨u,M⟩:=oX ts[i];rw[<-M] at g h o;have c:cP prog 33 [.agg (bS u),.agg (bS t)] s.H λd A=>A=aA.none/\d=.val (.bool (decide (u=t))):=an λx J=>O6 u t x o;obtain⟨Z,um,r,V,T⟩:=u;obtain⟨p,R,S,P,N⟩:=t;simp only[bS] at g v c;refine tq (cA m k f B) ?_;intro U Y O C;by_cases w:(⟨Z,um,r,V,T⟩:bp)=⟨p,R,S,P,N⟩
 ·rw[aD w] at h
  rw[ah w] at c;refine dE (λ_ _ d A=>A=.none/\d=.val (.bool true)) λU Y=>?_;refine dst (bG m v k f g I n a) ?_;intro U Y O C;refine⟨c,?_⟩;refine nx ?_;refine dst trivial ?_;intro U Y O C;refine ur E k j ?_;exact⟨_,aF _,e,_,aL e,by rw[h] <;> rfl⟩
 ·rw[aC w] at h
  rw[af w] at c;refine dE (λ_ _ d A=>A=.none/\d=.val (.bool false)) λU Y=>?_;refine dst (bG m v k f g I n a) ?_;intro U Y O C;refine⟨c,?_⟩;refine nx ?_;refine dst trivial ?_;intro U Y O C;refine tn (av k w3) ?_;exact⟨a,j,m,v,rfl,G,h⟩
theorem mM (h:i<d.length):(d.map iD)[i]?=some [.val (.int .i64 (d.getD i 0))]:=by rw[bT h,gZ,az h];rfl
theorem Gl.os {e:TypeId}{d:D}{ob:Option Nat}(h:Gl H0 e 1 (l.map iD) d H ob)(hl:0<l.length):∃c o,d=.os c o 1 0 l.length/\H0 c=none/\H c=some (.row e o 1 (l.map iD)):=by
 rcases h with⟨_,_,h⟩|⟨c,o,_,a,f,g⟩
 ·rw[wN] at h;rw[h] at hl;simp at hl
 ·exact⟨c,o,by rw[a,aS],f,g⟩
theorem JS (ts:List bp)(n:Nat)(H:aA)(hn:n<=ts.length)(b4:ts.length<=1000000)(ad:∀u∈ts,u.ar.length<=140737488351232)(hw:pI (ts.take n)):aN prog 107 [.seq 5 (ts.map bS),i64 n] H λd H'=>d=.seq 1 ((fe (ts.take n)).map iD)/\H=H':=by
 refine aq (K:=λd=>d=.seq 1 ((fe (ts.take n)).map iD)) ?_;have t:=lm bS ts;refine dO func107 ntmps107 results107 λw0 g0 Q aB=>?_;refine tz ?_;refine aO n (λi s=>s.df=[]/\s.fr 0=.seq 5 (ts.map bS)/\s.fr 1=i64 n/\s.fr 6=i64 i/\H.le s.H/\∃ob,Gl H 3 1 ((fe (ts.take i)).map iD) (s.fr 5) s.H ob) ⟨rfl,rfl,rfl,rfl,aF _,none,eB _ _ _ _⟩ ?_;rintro i s hi ⟨N,f0,f1,T,aM,ob,V⟩;by_cases ap:i<n
 case neg=>
  have q1:=nF ((i:Int)<(n:Int));have aw:i=n:=by omega
  subst aw;refine ur aB (bQ f1 T q1) N ?_;exact⟨_,aF _,aM,_,da aM V,rfl⟩
 have q1:=nT ((i:Int)<(n:Int));have E:=aX i;have v:=aZ i;have g:i<ts.length:=by omega
 have w3:=wS i;have h:(ts.map bS)[i]?=some (bS ts[i]):=by rw[bg,az g];rfl
 have a5:=ad ts[i] (ao g);have r:=hw i (by rw[bX];omega);rw[List.getElem_take] at r;have A:=Kt g;have ak:(fe (ts.take i)).length=i:=by rw[sE,bX];omega
 have M:=ya (ts.take i);rw[bX,mZ (by omega)] at M;have R:=yi (b:=i) (λx E=>(M x E).2) (by omega) ts[i];have S:=yh (λx E=>by have:=M x E;omega) ts[i];obtain⟨a,ag⟩:=oX (fe (ts.take i));rw[<-ag] at A ak R S V;have B:mi a ts[i]=ts[i].ar.foldl (nG a) (if ts[i].k=3 then a.getD ts[i].e.toNat 0 else 0):=rfl;obtain⟨u,hu⟩:=oX ts[i];rw[<-hu] at h a5 r A R S B;obtain⟨J,um,a6,I,m⟩:=u;simp only[bS] at h a5 r B;obtain⟨km,aa⟩:=oX (mi a ⟨J,um,a6,I,m⟩);rw[<-aa] at A R S B;have a4:=lm iD m;obtain⟨d5,z⟩:=oX (s.fr 5);rw[<-z] at V;(iterate 12 (refine tk (bG f0 f1 T q1 h E v (av g t)) ?_;intro U Y O C));refine nR (λs1=>s1.df=[]/\s1.fr 0=.seq 5 (ts.map bS)/\s1.fr 1=i64 n/\s1.fr 6=i64 i/\s1.H=s.H/\s1.fr 5=d5/\s1.fr 7=i64 (if J=3 then a.getD I.toNat 0 else 0)) ?_ ?_
 ·by_cases h3:J=3
  ·have q3:(J=3)=True:=aG h3
   have b1:=r.1 h3;obtain⟨c,o,f5,ae,y⟩:=Gl.os V (by omega);rw[z] at f5;have P:=mM (d:=a) (i:=I.toNat) (by omega);have L:0<=I:=b1.1;have w9:=nT (I<(a.length:Int));rw[aD h3];refine tn (bG f0 f5 T q3 h E v (eP g t y P L w9)) ?_;exact⟨N,f0,f1,T,rfl,by rw[z,<-f5] <;> rfl,rfl⟩
  ·have q3:(J=3)=False:=aI h3
   rw[aC h3];refine tn (bQ f0 T q3) ?_;exact⟨N,f0,f1,T,rfl,z.symm,rfl⟩
 rintro s1 ⟨a9,g0,g1,g6,ac,g5,g7⟩;refine tz ?_;refine aO m.length (λ(j:Nat) (G:St)=>G.df=[]/\G.fr 0=.seq 5 (ts.map bS)/\G.fr 1=i64 n/\G.fr 6=i64 i/\G.H=s.H/\G.fr 5=d5/\G.fr 8=i64 j/\G.fr 7=i64 ((m.take j).foldl (nG a) (if J=3 then a.getD I.toNat 0 else 0))) ⟨a9,g0,g1,g6,ac,g5,rfl,g7⟩ ?_;rintro j s2 hj ⟨a0,k0,k1,k6,w,k5,k8,k7⟩;have b0:=aX j;have ab:=aZ j;by_cases p:j<m.length
 case neg=>
  have q2:=lF j m.length;rw[bK (by omega),<-B] at k7;have w4:IntKind.i64.wrap (km+1)=km+1:=aP (by omega);have am:Gl H 3 1 (a.map iD) (s2.fr 5) s2.H ob:=by rw[k5,w];exact V
  have a8:H.le s2.H:=by rw[w];exact aM
  refine tq (bG k0 k6 k7 k8 q2 w4 h (cw E v g t a4)) ?_;intro U Y O C;refine ax (e:=3) fk rfl fk rfl yv rfl (by decide) a8 am (new:=[iD (km+1)]) (by exact⟨rfl,rfl⟩) (by rw[aS];show(_+1) * 8<=_;omega) λd H6 b3 a2 a7 _=>?_;rw[show[iD (km+1)]=[km+1].map iD from rfl,<-bI,<-A] at a2;refine tn (av k6 w3) ?_;exact⟨ap,a0,k0,k1,rfl,a7,b3,a2⟩
 have q2:=lT j m.length;have a3:=bT p;have a1:=r.2 m[j] (ao p);have Z:(m.take (j+1)).foldl (nG a) (if J=3 then a.getD I.toNat 0 else 0)=max ((m.take j).foldl (nG a) (if J=3 then a.getD I.toNat 0 else 0)) (a.getD m[j].toNat 0):=by rw[bw p,mX];rfl
 obtain⟨f,al⟩:=oX m[j];rw[<-al] at a3 a1 Z;obtain⟨c,o,f5,ae,y⟩:=Gl.os V (by omega);have b2:=k5.trans f5;rw[<-w] at y;have P:=mM (d:=a) (i:=f.toNat) (by omega);have L:0<=f:=a1.1;have w9:=nT (f<(a.length:Int));have w4:=wS j;refine tn (bG k0 b2 k6 k7 k8 q2 w4 (bG h E v g t a4 a3 (ej b0 ab p y P L w9))) ?_;exact⟨p,a0,k0,k1,k6,w,k5,rfl,by rw[Z] <;> rfl⟩
theorem Wf (ts:List bp)(i:Int)(H:aA)(t:ts.length<=1000000)(m:∀u∈ts,u.ar.length<=140737488351232)(z:pI ts):aN prog 49 [.seq 5 (ts.map bS),i64 i] H λd H'=>d=i64 (zw ts i)/\H=H':=by
 refine aq (K:=λd=>d=i64 (zw ts i)) ?_;have a:=lm bS ts;have c:=aF H;refine dO func49 ntmps49 results49 λG E Q g=>?_;by_cases w:i<0
 ·have f:(i<0)=True:=aG w
  refine ur g f trivial ?_;exact⟨_,aF _,c,_,aL c,by unfold zw;rw[aC (λh=>by have:=h.1;omega)]⟩
 have f:(i<0)=False:=aI w;by_cases x:(ts.length:Int)<=i
 ·have v:((ts.length:Int)<=i)=True:=aG x
  refine ur g (bQ f v a) trivial ?_;exact⟨_,aF _,c,_,aL c,by unfold zw;rw[aC (λh=>by have:=h.2;omega)]⟩
 have v:((ts.length:Int)<=i)=False:=aI x;have y:bN ts.length i:=⟨by omega,by omega⟩;obtain⟨n,rfl⟩:∃n:Nat,i=n:=⟨i.toNat,by omega⟩;have B:=wS n;have p:(fe (ts.take (n+1))).length=n+1:=by rw[sE,bX];omega
 have e:=mM (d:=fe (ts.take (n+1))) (i:=n) (by omega);have o:(fe (ts.take (n+1))).getD n 0=zw ts n:=by
  unfold zw;rw[aD y,gZ,gZ,aX,NW (by omega) (by omega)]
 rw[o] at e;have A:=aX n;have k:=aZ n;have r:(List.map iD (fe (ts.take (n+1)))).length=n+1:=by rw[aS,p]
 have s:n<n+1:=by omega
 have j:=nT ((n:Int)<((n+1:Nat):Int));refine tq (cA f v a B) ?_;intro U Y O C;refine(JS ts (n+1) _ (by omega) t m (Q5 z _)).q ?_;refine ur g (eP e A k r s j) trivial ?_;exact zf c rfl
theorem SR (ts:List bp)(i:Nat)(n:Int)(H:aA)(hi:i<ts.length)(c3:ts.length<=1000000)(b2:∀u∈ts,u.ar.length<=140737488351232)(hw:pI (ts.take i)):
  aN prog 106 [.seq 5 (ts.map bS),.seq 1 ((fe (ts.take i)).map iD),i64 i,i64 n] H λd H'=>d=i64 (qW (ts.take i) n ts[i])/\H=H':=by
 refine aq (K:=λd=>d=i64 (qW (ts.take i) n ts[i])) ?_;have J:=aF H;have ap:=lm bS ts;have hx:=aX i;have b1:=aZ i;have ak:(ts.map bS)[i]?=some (bS ts[i]):=by rw[bg,az hi];rfl
 have b5:=b2 ts[i] (ao hi);obtain⟨u,hu⟩:=oX ts[i];rw[<-hu] at ak b5 ⊢;obtain⟨c,hc⟩:=oX (qW (ts.take i) n u);have a:=hc;unfold qW at a;rw[<-hc];have a4:(ts.take i).length=i:=by rw[bX];omega
 rw[a4] at a;obtain⟨k,M,e,o,g⟩:=u;simp only at a b5;simp only[bS] at ak;have w:=lm iD g;refine dO func106 ntmps106 results106 λw0 g0 Q E=>?_;refine tq (cw ak hx b1 hi ap) ?_;intro U Y O C;intro c9 bk;refine Y _ ?_;refine cm 9 bk ?_;by_cases h1:k<0
 ·have q1:(k<0)=True:=aG h1
  rw[aD (.inl h1)] at a;refine ur E q1 trivial ?_;exact⟨_,aF _,J,_,aL J,by rw[a] <;> rfl⟩
 have q1:(k<0)=False:=aI h1;by_cases h2:4<k
 ·have q2:(4<k)=True:=aG h2
  rw[aD (.inr h2)] at a;refine ur E (av q1 q2) trivial ?_;exact⟨_,aF _,J,_,aL J,by rw[a] <;> rfl⟩
 have q2:(4<k)=False:=aI h2;rw[aC (by omega)] at a;(iterate 10 (refine tk (av q1 q2) ?_;intro U Y O C));obtain⟨v,ac⟩:=oX (fe (ts.take i));rw[<-ac] at a ⊢;refine rl (λs1=>s1.df=[]/\s1.fr 0=.seq 5 (ts.map bS)/\s1.fr 1=.seq 1 (v.map iD)/\s1.fr 2=i64 i/\s1.fr 3=i64 n/\s1.fr 9=.rp [i64 k,.val (.bool M),i64 e,i64 o,.seq 1 (g.map iD)]/\s1.H=H/\¬((k≠3/\(M=true\/e≠0\/o≠0))\/(k≠4/\0<g.length))) ?_ ?_
 ·by_cases R:k=3
  ·have L:(k=3)=True:=aG R
   have z:¬k=4:=by omega
   have p:(k=4)=False:=aI z;by_cases h5:0<g.length
   ·have y:=nT ((0:Int)<(g.length:Int))
    rw[aD (.inr ⟨z,h5⟩)] at a;refine tq (cA L p y w) ?_;intro U Y O C;refine⟨by simp,?_⟩;refine rt E trivial ?_;exact⟨_,aF _,J,_,aL J,by rw[a] <;> rfl⟩
   ·have y:=nF ((0:Int)<(g.length:Int))
    refine tn (cA L p y w) ?_;exact⟨rfl,rfl,rfl,rfl,rfl,rfl,rfl,by omega⟩
  have L:(k=3)=False:=aI R;by_cases h5:M=true
  ·rw[aD (.inl ⟨R,.inl h5⟩)] at a
   subst h5;refine tq L ?_;intro U Y O C;refine⟨by simp,?_⟩;refine rt E trivial ?_;exact⟨_,aF _,J,_,aL J,by rw[a] <;> rfl⟩
  have be:M=false:=by simpa using h5
  subst be;by_cases N:e=0
  case neg=>
   have B:(e=0)=False:=aI N;rw[aD (.inl ⟨R,.inr (.inl N)⟩)] at a;refine tq (av L B) ?_;intro U Y O C;refine⟨by simp,?_⟩;refine rt E trivial ?_;exact⟨_,aF _,J,_,aL J,by rw[a] <;> rfl⟩
  have B:(e=0)=True:=aG N;by_cases h7:o=0
  case neg=>
   have Z:(o=0)=False:=aI h7;rw[aD (.inl ⟨R,.inr (.inr h7)⟩)] at a;refine tq (bQ L B Z) ?_;intro U Y O C;refine⟨by simp,?_⟩;refine rt E trivial ?_;exact⟨_,aF _,J,_,aL J,by rw[a] <;> rfl⟩
  have Z:(o=0)=True:=aG h7;by_cases z:k=4
  ·have p:(k=4)=True:=aG z
   refine tn (cA L p B Z) ?_;exact⟨rfl,rfl,rfl,rfl,rfl,rfl,rfl,by rintro(⟨_,h|h|h⟩|⟨h,_⟩) <;> first|exact h N|exact h h7|exact h z|cases h⟩
  have p:(k=4)=False:=aI z;by_cases h5:0<g.length
  ·have y:=nT ((0:Int)<(g.length:Int))
   rw[aD (.inr ⟨z,h5⟩)] at a;refine tq (eP L p y B Z w) ?_;intro U Y O C;refine⟨by simp,?_⟩;refine rt E trivial ?_;exact⟨_,aF _,J,_,aL J,by rw[a] <;> rfl⟩
  ·have y:=nF ((0:Int)<(g.length:Int))
   refine tn (eP L p y B Z w) ?_;exact⟨rfl,rfl,rfl,rfl,rfl,rfl,rfl,by rintro(⟨_,h|h|h⟩|⟨_,h⟩) <;> first|exact h N|exact h h7|exact h5 h|cases h⟩
 rintro s1 ⟨V,g0,g1,g2,g3,g9,aa,bq⟩;rw[aC bq] at a;have G:H.le s1.H:=by rw[aa];exact J
 (iterate 3 (refine tk trivial ?_;intro U Y O C));have c1:v.length=i:=by rw[ac,sE,a4]
 refine rl (λs2=>s2.df=[]/\s2.fr 0=.seq 5 (ts.map bS)/\s2.fr 1=.seq 1 (v.map iD)/\s2.fr 2=i64 i/\s2.fr 3=i64 n/\s2.fr 9=.rp [i64 k,.val (.bool M),i64 e,i64 o,.seq 1 (g.map iD)]/\s2.H=H/\s2.fr 10=i64 (if k=3 then v.getD o.toNat 0 else 0)/\¬(k=3/\(e<0\/n<=e\/o<0\/(i:Int)<=o))) ?_ ?_
 ·by_cases R:k=3
  case neg=>
   have L:(k=3)=False:=aI R;rw[aC R];refine tn (av g9 L) ?_;exact⟨V,g0,g1,g2,g3,g9,aa,rfl,λh=>R h.1⟩
  have L:(k=3)=True:=aG R;rw[aD R];by_cases z:e<0
  ·have p:(e<0)=True:=aG z
   rw[aD ⟨R,.inl z⟩] at a;refine tq (bQ g9 L p) ?_;intro U Y O C;refine⟨by simp,?_⟩;refine rt E V ?_;exact⟨_,aF _,G,_,aL G,by rw[a] <;> rfl⟩
  have p:(e<0)=False:=aI z;by_cases h5:n<=e
  ·have y:(n<=e)=True:=aG h5
   rw[aD ⟨R,.inr (.inl h5)⟩] at a;refine tq (cw g3 g9 L p y) ?_;intro U Y O C;refine⟨by simp,?_⟩;refine rt E V ?_;exact⟨_,aF _,G,_,aL G,by rw[a] <;> rfl⟩
  have y:(n<=e)=False:=aI h5;by_cases N:o<0
  ·have B:(o<0)=True:=aG N
   rw[aD ⟨R,.inr (.inr (.inl N))⟩] at a;refine tq (eP g3 g9 L p y B) ?_;intro U Y O C;refine⟨by simp,?_⟩;refine rt E V ?_;exact⟨_,aF _,G,_,aL G,by rw[a] <;> rfl⟩
  have B:(o<0)=False:=aI N;by_cases h7:(i:Int)<=o
  ·have Z:((i:Int)<=o)=True:=aG h7
   rw[aD ⟨R,.inr (.inr (.inr h7))⟩] at a;refine tq (bG g2 g3 g9 L p y B Z) ?_;intro U Y O C;refine⟨by simp,?_⟩;refine rt E V ?_;exact⟨_,aF _,G,_,aL G,by rw[a] <;> rfl⟩
  have Z:((i:Int)<=o)=False:=aI h7;have al:=mM (d:=v) (i:=o.toNat) (by omega);have a9:0<=o:=by omega
  have ad:=lm iD v;have w9:o.toNat<v.length:=by omega
  have a7:o<(v.length:Int):=by omega
  refine tn (bG g1 g2 g3 g9 L p y (ej B Z al a9 ad w9 a7)) ?_;exact⟨V,g0,g1,g2,g3,g9,aa,rfl,by omega⟩
 rintro s2 ⟨b9,f0,f1,f2,f3,f9,bf,bc,br⟩;rw[aC br] at a;have b4:mi v ⟨k,M,e,o,g⟩=g.foldl (nG v) (if k=3 then v.getD o.toNat 0 else 0):=rfl;have ab:=ya (ts.take i);rw[a4,<-ac] at ab;have bl:=yi (b:=i) (λx hx=>(ab x hx).2) (by omega) ⟨k,M,e,o,g⟩;have bm:=yh (λx hx=>by have:=ab x hx;omega) ⟨k,M,e,o,g⟩;obtain⟨km,bb⟩:=oX (mi v ⟨k,M,e,o,g⟩);rw[<-bb] at bl bm b4 a;refine tz ?_;refine aO g.length (λj s=>s.df=[]/\s.fr 0=.seq 5 (ts.map bS)/\s.fr 1=.seq 1 (v.map iD)/\s.fr 2=i64 i/\s.fr 9=.rp [i64 k,.val (.bool M),i64 e,i64 o,.seq 1 (g.map iD)]/\s.H=H/\s.fr 11=i64 j/\s.fr 10=i64 ((g.take j).foldl (nG v) (if k=3 then v.getD o.toNat 0 else 0))/\∀m (h:m<g.length),m<j->¬(g[m]<0\/(i:Int)<=g[m])) ⟨b9,f0,f1,f2,f9,bf,rfl,bc,λm h hm=>by omega⟩ ?_;rintro j s3 hj ⟨P,k0,k1,k2,k9,a2,a5,a0,aw⟩;have I:H.le s3.H:=by rw[a2];exact J
 have am:=aX j;have a8:=aZ j;by_cases S:j<g.length
 case pos=>
  have p1:=lT j g.length;have a3:=bT S;have w4:=wS j;have b0:(g.take (j+1)).foldl (nG v) (if k=3 then v.getD o.toNat 0 else 0)=max ((g.take j).foldl (nG v) (if k=3 then v.getD o.toNat 0 else 0)) (v.getD g[j].toNat 0):=by rw[bw S,mX];rfl
  have ag:g[j]∈g:=ao S;obtain⟨f,b3⟩:=oX g[j];rw[<-b3] at a3 b0 ag;by_cases z:f<0
  ·have p:(f<0)=True:=aG z
   rw[aD ⟨f,ag,.inl z⟩] at a;refine ur E (bG k9 a5 p1 a3 am a8 S (av w p)) P ?_;exact⟨_,aF _,I,_,aL I,by rw[a] <;> rfl⟩
  have p:(f<0)=False:=aI z;by_cases h5:(i:Int)<=f
  ·have y:((i:Int)<=f)=True:=aG h5
   rw[aD ⟨f,ag,.inr h5⟩] at a;refine ur E (bG k2 k9 a5 p1 a3 am a8 (cA S w p y)) P ?_;exact⟨_,aF _,I,_,aL I,by rw[a] <;> rfl⟩
  have y:((i:Int)<=f)=False:=aI h5;have al:=mM (d:=v) (i:=f.toNat) (by omega);have a9:0<=f:=by omega
  have ad:=lm iD v;have w9:f.toNat<v.length:=by omega
  have a7:f<(v.length:Int):=by omega
  refine tq (bG k1 k2 k9 a0 a5 p1 a3 (bG am a8 S w p y al (cw a9 ad w9 a7 w4))) ?_;intro U Y O C;refine⟨S,P,k0,k1,k2,k9,a2,rfl,by rw[b0] <;> rfl,λm hm c2=>?_⟩;by_cases bo:m=j
  ·subst bo;rw[<-b3];omega
  ·exact aw m hm (by omega)
 have p1:=lF j g.length;rw[bK (by omega),<-b4] at a0;have bs:¬∃f∈g,f<0\/(i:Int)<=f:=by
  rintro⟨f,hf,hb⟩;obtain⟨m,hm,rfl⟩:=kV hf;exact aw m hm (by omega) hb
 rw[aC bs] at a;have w5:IntKind.i64.wrap (km+1)=km+1:=aP (by omega);(iterate 6 (refine tk (eP k9 a0 a5 p1 w w5) ?_;intro U Y O C));refine rl (λs4=>s4.df=[]/\s4.fr 0=.seq 5 (ts.map bS)/\s4.fr 2=i64 i/\s4.fr 9=.rp [i64 k,.val (.bool M),i64 e,i64 o,.seq 1 (g.map iD)]/\s4.H=H/\s4.fr 10=i64 km/\¬(k=4/\(g.length=0\/65535<g.length))) ?_ ?_
 ·by_cases z:k=4
  case neg=>
   have p:(k=4)=False:=aI z;refine tn (av k9 p) ?_;exact⟨P,k0,k2,k9,a2,a0,λh=>z h.1⟩
  have p:(k=4)=True:=aG z;by_cases h5:g.length=0
  ·have y:=nT ((g.length:Int)=0)
   rw[aD ⟨z,.inl h5⟩] at a;refine tq (cA k9 p y w) ?_;intro U Y O C;refine⟨by simp,?_⟩;refine rt E P ?_;exact⟨_,aF _,I,_,aL I,by rw[a] <;> rfl⟩
  have y:=nF ((g.length:Int)=0);by_cases N:65535<g.length
  ·have B:=nT ((65535:Int)<(g.length:Int))
   rw[aD ⟨z,.inr N⟩] at a;refine tq (cw k9 p y B w) ?_;intro U Y O C;refine⟨by simp,?_⟩;refine rt E P ?_;exact⟨_,aF _,I,_,aL I,by rw[a] <;> rfl⟩
  have B:=nF ((65535:Int)<(g.length:Int));refine tn (cw k9 p y B w) ?_;exact⟨P,k0,k2,k9,a2,a0,by omega⟩
 rintro s4 ⟨a6,m0,m2,m9,bi,b6,bt⟩;rw[aC bt] at a;have T:H.le s4.H:=by rw[bi];exact J
 by_cases N:32<km+1
 ·have B:(32<km+1)=True:=aG N
  rw[aD N] at a;refine ur E (bQ b6 w5 B) a6 ?_;exact⟨_,aF _,T,_,aL T,by rw[a] <;> rfl⟩
 have B:(32<km+1)=False:=aI N;rw[aC N] at a;refine tq (bQ b6 w5 B) ?_;intro U Y O C;have ae:=FU (t:=⟨k,M,e,o,g⟩) (l:=ts.take i);have a1:cP prog 186 [.seq 5 ((ts.take i).map bS),.agg [i64 k,.val (.bool M),i64 e,i64 o,.seq 1 (g.map iD)]] s4.H λd A=>A=aA.none/\d=i64 (oQ ⟨k,M,e,o,g⟩ (ts.take i) 0):=an λb7 c0=>SY (ts.take i) ⟨k,M,e,o,g⟩ b7 (by rw[a4];omega) (λu hu=>b2 u (rC hu));obtain⟨r,hr⟩:=oX (oQ ⟨k,M,e,o,g⟩ (ts.take i) 0);rw[<-hr] at a1 ae;rw[iK] at a1;have b8:i<=ts.length:=by omega
 have ba:=nT ((i:Int)<=(ts.length:Int));simp only[i64] at a1;refine dE (λ_ _ d A=>A=.none/\d=.val (.int .i64 r)) λU Y=>?_;refine dst (bG m0 m2 m9 ap hx b1 b8 ba) ?_;intro U Y O C;refine⟨a1,?_⟩;refine nx ?_;by_cases hm:(⟨k,M,e,o,g⟩:bp)∈ts.take i
 ·have Z:(0<=r)=True:=aG (ae.2 hm)
  rw[aD hm] at a;refine ur E Z a6 ?_;exact⟨_,aF _,T,_,aL T,by rw[a] <;> rfl⟩
 ·have Z:(0<=r)=False:=aI λh=>hm (ae.1 h)
  rw[aC hm] at a;refine ur E Z a6 ?_;exact⟨_,aF _,T,_,aL T,by rw[a] <;> rfl⟩
theorem OX (ts:List bp)(n:Int)(H:aA)(R:ts.length<=140737488351232)(k:∀u∈ts,u.ar.length<=140737488351232):
  aN prog 48 [.seq 5 (ts.map bS),i64 n] H λd H'=>d=i64 (rT ts n)/\H=H':=by
 refine aq (K:=λd=>d=i64 (rT ts n)) ?_;have A:=aF H;have f:=lm bS ts;have a:rT ts n=if 65535<ts.length then 15 else pU n [] ts:=rfl
 refine dO func48 ntmps48 results48 λw0 V Q y=>?_;by_cases L:65535<ts.length
 ·have G:=nT ((65535:Int)<(ts.length:Int))
  rw[aD L] at a;refine ur y (av f G) trivial ?_;exact⟨_,aF _,A,_,aL A,by rw[a] <;> rfl⟩
 have G:=nF ((65535:Int)<(ts.length:Int));rw[aC L] at a;refine tq (av f G) ?_;intro U Y O C;refine RK 5 (.seq 1 []) (λw v S=>fO _ _ _ S) ?_;refine aO ts.length (λi s=>s.df=[]/\s.fr 0=.seq 5 (ts.map bS)/\s.fr 1=i64 n/\s.fr 5=.seq 1 ((fe (ts.take i)).map iD)/\s.fr 6=i64 i/\s.H=H/\pU n [] (ts.take i)=0) ⟨rfl,rfl,rfl,rfl,rfl,rfl,rfl⟩ ?_;rintro i s Z ⟨g,p,J,P,r,M,o⟩;have e:H.le s.H:=by rw[M];exact A
 by_cases h:i<ts.length
 case neg=>
  have I:=lF i ts.length;rw[bK (by omega)] at o;refine ur y (cA p r f I) g ?_;exact⟨_,aF _,e,_,aL e,by rw[a,o] <;> rfl⟩
 have I:=lT i ts.length;have N:=wS i;have E:pI (ts.take i):=wA (n:=n) λm B=>by simpa using y9.1 o m B
 have c:=wu (t:=ts[i]) o;rw[<-bw h,cz] at c;refine tq (eP p J P r f I) ?_;intro U Y O C;refine(SR ts i n _ h (by omega) k E).q ?_;by_cases x:qW (ts.take i) n ts[i]=0
 case neg=>
  have T:=nF ((qW (ts.take i) n ts[i]:Int)=0);have j:=zn (us:=ts.drop (i+1)) (by rw[c];exact x);rw[ga] at j;refine ur y T g ?_;exact⟨_,aF _,e,_,aL e,by rw[a,j,c] <;> rfl⟩
 have z:pI (ts.take (i+1)):=wA (n:=n) λm B=>by simpa using y9.1 (c.trans x) m B
 rw[x];refine tq (bQ p r N) ?_;intro U Y O C;refine(JS ts (i+1) _ (by omega) (by omega) k z).qs (av r N) ?_;intro U Y O C;exact⟨h,g,p,J,rfl,rfl,M,c.trans x⟩
theorem Z0 (a b:bp)(H:aA)(y:a.ar.length<=140737488351232):aN prog 280 [.agg (bS a),.agg (bS b)] H λd H'=>d=.val (.bool (decide (a=b)))/\H=H':=by
 refine aq (K:=λd=>d=.val (.bool (decide (a=b)))) ?_;obtain⟨k,m,ar,j,g⟩:=a;obtain⟨p,r,s,o,n⟩:=b;have f:=KD (a:=⟨k,m,ar,j,g⟩) (b:=⟨p,r,s,o,n⟩);simp only at f y;simp only[bS];have v:=aF H;refine dO func280 ntmps280 results280 λw0 g0 Q u=>?_;refine t0 ?_;intro U Y O C;intro I S w A;have B:I≠w:=lj (aK _ _ _) A;have R:H w=none:=(bF.1 A).2;refine Y _ ?_;refine dZ 2 rfl ((aJ B).trans (aK _ _ _)) rfl ?_;refine dZ 3 rfl ((bL B.symm).trans (aK _ _ _)) rfl ?_;refine lB H (λx z E=>?_) ?_
 ·have V:x≠I:=λe=>by rw[e,S] at E;cases E
  have Z:x≠w:=λe=>by rw[e,R] at E;cases E
  show((((H.aU I _).aU w _).del I).del w) x=_;rw[bL Z,bL V,aJ Z,aJ V];exact E
 simp only[St.ku,List.drop];by_cases J:k=p
 case neg=>
  have t:(k=p)=False:=aI J;have c:decide ((⟨k,m,ar,j,g⟩:bp)=⟨p,r,s,o,n⟩)=false:=af λh=>J (f.1 h).1;refine ur u t trivial ?_;exact zf v (by rw[c])
 have t:(k=p)=True:=aG J;by_cases L:m=r
 case neg=>
  have G:(m=r)=False:=aI L;have c:decide ((⟨k,m,ar,j,g⟩:bp)=⟨p,r,s,o,n⟩)=false:=af λh=>L (f.1 h).2.1;refine ur u (av t G) trivial ?_;exact zf v (by rw[c])
 have G:(m=r)=True:=aG L;by_cases M:ar=s
 case neg=>
  have P:(ar=s)=False:=aI M;have c:decide ((⟨k,m,ar,j,g⟩:bp)=⟨p,r,s,o,n⟩)=false:=af λh=>M (f.1 h).2.2.1;refine ur u (bQ t G P) trivial ?_;exact zf v (by rw[c])
 have P:(ar=s)=True:=aG M;by_cases N:j=o
 case neg=>
  have T:(j=o)=False:=aI N;have c:decide ((⟨k,m,ar,j,g⟩:bp)=⟨p,r,s,o,n⟩)=false:=af λh=>N (f.1 h).2.2.2.1;refine ur u (cA t G P T) trivial ?_;exact zf v (by rw[c])
 have T:(j=o)=True:=aG N;have c:decide ((⟨k,m,ar,j,g⟩:bp)=⟨p,r,s,o,n⟩)=decide (g=n):=by
  have:((⟨k,m,ar,j,g⟩:bp)=⟨p,r,s,o,n⟩)=(g=n):=propext ⟨λh=>(f.1 h).2.2.2.2,λh=>f.2 ⟨J,L,M,N,h⟩⟩;simp only[this]
 refine tq (cA t G P T) ?_;intro U Y O C;refine(LP H g n y).q ?_;refine u0 u ?_;exact zf v (by rw[c])
theorem WT (x t:bp)(H:aA)(a:x.ar.length<=140737488351232):aN prog 279 [.agg (bS x),.rp (bS t)] H λd H'=>d=.val (.bool (decide (x=t)))/\H=H':=by
 refine aq (K:=λd=>d=.val (.bool (decide (x=t)))) ?_;have e:=Z0 x t H a;obtain⟨v,w,y,u,s⟩:=x;obtain⟨f,o,p,n,m⟩:=t;simp only[bS] at e ⊢;have h:=aF H;refine dO func279 ntmps279 results279 λr k Q g=>?_;refine t0 ?_;intro U Y O C;intro j c;refine Y _ ?_;refine cm 2 c ?_;refine t0 ?_;intro U Y O C;refine e.q ?_;refine u0 g ?_;exact zf h rfl
theorem W6 (ts:List bp)(t:bp)(H:aA)(E:ts.length<=140737488351232)(w:∀u∈ts,u.ar.length<=140737488351232):aN prog 278 [.seq 5 (ts.map bS),.fn 279 [.rp (bS t)]] H λd H'=>d=i64 (oQ t ts 0)/\H=H':=by
 refine aq (K:=λd=>d=i64 (oQ t ts 0)) ?_;have h:=lm bS ts;have Z:=aF H;refine dO func278 ntmps278 results278 λw0 g0 Q y=>?_;refine tn h ?_;refine aO ts.length (λi s=>s.df=[]/\s.fr 0=.seq 5 (ts.map bS)/\s.fr 1=.fn 279 [.rp (bS t)]/\s.fr 7=i64 ts.length/\s.fr 8=i64 i/\s.H=H/\oQ t ts 0=oQ t (ts.drop i) i) ⟨rfl,rfl,rfl,rfl,rfl,rfl,rfl⟩ ?_;rintro i s hi ⟨f,z,p,r,n,A,e⟩;have I:=aX i;have v:=aZ i;have c:H.le s.H:=by rw[A];exact aF _
 by_cases a:i<ts.length
 case neg=>
  have x:=lF i ts.length;rw[cb (by omega)] at e;refine ur y (bQ r n x) f ?_;exact⟨_,aF _,c,_,aL c,by rw[e] <;> rfl⟩
 have x:=lT i ts.length;have V:=wS i;have j:=w ts[i] (ao a);have g:(ts.map bS)[i]?=some (bS ts[i]):=by rw[bg,az a];rfl
 rw[cL a,oQ] at e;obtain⟨u,G⟩:=oX ts[i];rw[<-G] at g e j;have B:=WT u t s.H j;obtain⟨S,T,m,R,P⟩:=u;obtain⟨k,M,N,L,J⟩:=t;simp only[bS] at g p B;refine tq (bG z p r n h x g (bQ I v a)) ?_;intro U Y O C;refine B.q ?_;by_cases o:(⟨S,T,m,R,P⟩:bp)=⟨k,M,N,L,J⟩
 ·rw[aD o] at e
  rw[ah o];refine ur y n f ?_;exact⟨_,aF _,c,_,aL c,by rw[e] <;> rfl⟩
 ·rw[aC o] at e
  rw[af o];refine tn (av n V) ?_;exact⟨a,f,z,p,r,rfl,A,e⟩
theorem WN (ts:List bp)(t:bp)(H:aA)(j:ts.length<=140737488351232)(e:∀u∈ts,u.ar.length<=140737488351232):aN prog 205 [.seq 5 (ts.map bS),.agg (bS t)] H λd H'=>d=.eO [i64 (max (oQ t ts 0) 0),.val (.bool (decide (t∈ts)))]/\H=H':=by
 refine aq (K:=λd=>d=.eO [i64 (max (oQ t ts 0) 0),.val (.bool (decide (t∈ts)))]) ?_;have g:=W6 ts t H j e;have a:=FU (t:=t) (l:=ts);obtain⟨r,p⟩:=oX (oQ t ts 0);rw[<-p] at g a ⊢;obtain⟨o,y,z,x,w⟩:=t;simp only[bS] at g ⊢;have n:=aF H;refine dO func205 ntmps205 results205 λA v Q m=>?_;refine t0 ?_;intro U Y O C;intro s f;refine Y _ ?_;refine cm 3 f ?_;refine t0 ?_;intro U Y O C;refine g.q ?_;by_cases c:0<=r
 ·have k:(0<=r)=True:=aG c
  refine ur m k trivial ?_;exact zf n (by rw[ah (a.1 c)])
 ·have k:(0<=r)=False:=aI c
  refine ur m k trivial ?_;exact zf n (by rw[af λh=>c (a.2 h)])
def CK (H0:aA) (b:Nat) (n:Int) (ds:List Int) (H:aA):Prop:=
 ∃d a,H b=some (.row 299 0 2 [[i64 n,d]])/\Gl H0 3 1 (ds.map iD) d H a/\H0 b=none/\H0.le H/\a≠some b
theorem Rl (n:Int)(ds l:List Int)(b:Nat)(ob:Option Nat)(d:D)(H0 H:aA)(hb:H b=some (.row 299 0 2 [[i64 n,d]]))(hg:Gl H0 3 1 (ds.map iD) d H ob)(hl:l.length<=140737488351232)(a3:ds.length<=140737488351232):
  aN prog 277 [.ep b 0 2 0 0,.seq 1 (l.map iD)] H λr H'=>r=.eO (if ∀f∈l,0<=f/\f<ds.length then [i64 (l.foldl (nG ds) 0),.val (.bool true)] else [i64 0,.val (.bool false)])/\H'=H:=by
 have u:=lm iD l;have M:=lm iD ds;refine dO func277 ntmps277 results277 λw0 g0 Q S=>?_;refine tn u ?_;refine aO l.length (λi s=>s.df=[]/\s.fr 0=.ep b 0 2 0 0/\s.fr 6=i64 ((l.take i).foldl (nG ds) 0)/\s.fr 9=.seq 1 (l.map iD)/\s.fr 10=i64 l.length/\s.fr 11=i64 i/\s.H=H/\∀m (h:m<l.length),m<i->0<=l[m]/\l[m]<ds.length) ⟨rfl,rfl,rfl,rfl,rfl,rfl,rfl,λm h h'=>by omega⟩ ?_;rintro i s hi ⟨p,G,w,I,g,k,x,A⟩;have V:=aX i;have v:=aZ i;by_cases a:i<l.length
 case neg=>
  have z:=lF i l.length;have ha:∀f∈l,0<=f/\f<ds.length:=λf y=>by
   obtain⟨m,hm,rfl⟩:=kV y;exact A m hm (by omega)
  rw[bK (by omega)] at w;refine ur S (cA w g k z) p ?_;exact⟨_,aF _,by rw[aD ha] <;> rfl,x⟩
 have z:=lT i l.length;have w3:=wS i;have t:=bT a;have j:s.H b=some (.row 299 0 2 [[i64 n,d]]):=by rw[x];exact hb
 have N:Gl H0 3 1 (ds.map iD) d s.H ob:=by rw[x];exact hg
 obtain⟨f,y⟩:=oX l[i];have B:f∈l:=by rw[y];exact ao a
 have Z:0<=f/\f<ds.length->∀m (h:m<l.length),m<i+1->0<=l[m]/\l[m]<ds.length:=λh m hm a5=>by
  by_cases e:m=i
  ·subst e;rw[<-y];exact h
  ·exact A m hm (by omega)
 have E:(l.take (i+1)).foldl (nG ds) 0=max ((l.take i).foldl (nG ds) 0) (ds.getD f.toNat 0):=by rw[bw a,mX,<-y];rfl
 rw[<-y] at t;obtain⟨mx,a2⟩:=oX ((l.take i).foldl (nG ds) 0);rw[<-a2] at w E;by_cases h1:f<0
 ·have P:(f<0)=True:=aG h1
  have T:¬∀f∈l,0<=f/\f<ds.length:=λh=>by have:=h f B;omega
  refine ur S (bG G w I g k z t (cw V v a u P)) p ?_;exact⟨_,aF _,by rw[aC T] <;> rfl,x⟩
 have P:(f<0)=False:=aI h1;by_cases h2:f<ds.length
 case neg=>
  have T:¬∀f∈l,0<=f/\f<ds.length:=λh=>by have:=h f B;omega
  rcases N with⟨_,L,h0⟩|⟨c,o,_,L,h0,K⟩
  ·have a4:ds=[]:=by simpa using h0
   have R:=nT (0<=f);rw[L] at j;refine ur S (bG G w I g k z t (ej V v a u P R j)) p ?_;exact⟨_,aF _,by rw[aC T] <;> rfl,x⟩
  ·have R:=nT ((ds.length:Int)<=f)
   rw[L,M] at j;refine ur S (bG G w I g k z t (ej V v a u P R j)) p ?_;exact⟨_,aF _,by rw[aC T] <;> rfl,x⟩
 have R:=nF ((ds.length:Int)<=f);obtain⟨c,o,L,h0,K⟩:=Gl.os N (by omega);have a1:=mM (d:=ds) (i:=f.toNat) (by omega);have J:0<=f:=by omega
 have a0:f.toNat<ds.length:=by omega
 rw[L] at j;refine tn (bG G w I g k z t (bG V v a u P R j (ej K a1 J a0 h2 M w3))) ?_;exact⟨a,p,G,by rw[E] <;> rfl,I,g,rfl,x,Z ⟨J,h2⟩⟩
open Classical in
noncomputable def DF (ps:List bp) (n:Int) (t:bp):Nat:=
 if t.k<0\/4<t.k then 14
 else if (t.k≠3/\(t.m=true\/t.r≠0\/t.e≠0))\/(t.k≠4/\0<t.ar.length) then 2
 else if t.k=3/\(t.r<0\/n<=t.r) then 3
 else if ¬∀f∈mD t,0<=f/\f<ps.length then 3
 else if t.k=4/\(t.ar.length=0\/65535<t.ar.length) then 15
 else if 32<=mi (fe ps) t then 19
 else 0
theorem Vo {ps:List bp}{n:Int}{t:bp}:qW ps n t=if DF ps n t=0 then (if t∈ps then 21 else 0) else DF ps n t:=by
 unfold qW DF;by_cases v:t.k<0\/4<t.k
 ·rw[aD v,aD v];simp
 rw[aC v,aC v];by_cases s:(t.k≠3/\(t.m=true\/t.r≠0\/t.e≠0))\/(t.k≠4/\0<t.ar.length)
 ·rw[aD s,aD s];simp
 rw[aC s,aC s];by_cases w:t.k=3/\(t.r<0\/n<=t.r)
 ·rw[aD w,aD ⟨w.1,by omega⟩];simp
 rw[aC w];have u:32<mi (fe ps) t+1↔32<=mi (fe ps) t:=by omega
 have x:(if t.k=4/\(t.ar.length=0\/65535<t.ar.length) then 15 else if 32<mi (fe ps) t+1 then 19 else if t∈ps then 21 else 0)=
   if (if t.k=4/\(t.ar.length=0\/65535<t.ar.length) then 15 else if 32<=mi (fe ps) t then 19 else 0)=0 then (if t∈ps then 21 else 0) else (if t.k=4/\(t.ar.length=0\/65535<t.ar.length) then 15 else if 32<=mi (fe ps) t then 19 else 0):=by
  by_cases o:t.k=4/\(t.ar.length=0\/65535<t.ar.length)
  ·simp only[aD o];simp
  simp only[aC o];by_cases g:32<=mi (fe ps) t
  ·simp only[aD g,aD (u.2 g)];simp
  ·simp only[aC g,aC (λh=>g (u.1 h))];simp
 by_cases j:∀f∈mD t,0<=f/\f<ps.length
 ·rw[aC (show ¬¬_ from λh=>h j)]
  have o:¬(t.k=3/\(t.r<0\/n<=t.r\/t.e<0\/(ps.length:Int)<=t.e)):=by
   rintro⟨a,b⟩;have:=j t.e (by unfold mD;rw[aD a];simp);exact w ⟨a,by omega⟩
  have g:¬∃f∈t.ar,f<0\/(ps.length:Int)<=f:=by
   rintro⟨f,c,z⟩;by_cases p:t.k=3
   ·have:t.ar.length=0:=by have B:¬(t.k≠4/\0<t.ar.length):=λy=>s (.inr y);omega
    rw[cy this] at c;cases c
   ·have:=j f (by unfold mD;rw[aC p];exact c)
    omega
  rw[aC o,aC g];exact x
 ·rw[aD j]
  by_cases p:t.k=3
  ·have E:¬(0<=t.e/\t.e<ps.length):=λh=>j λf c=>by
    unfold mD at c;rw[aD p,bM] at c;rw[c];exact h
   rw[aD ⟨p,by omega⟩];simp
  ·have o:¬(t.k=3/\(t.r<0\/n<=t.r\/t.e<0\/(ps.length:Int)<=t.e)):=λh=>p h.1
   have g:∃f∈t.ar,f<0\/(ps.length:Int)<=f:=eC λA=>j λf c=>by
    unfold mD at c;rw[aC p] at c;exact eC λz=>A ⟨f,c,by omega⟩
   rw[aC o,aD g];simp
theorem O2 {t:bp}(h:t.k=3->t.ar=[])(h0:∀x∈d,0<=x):mi d t=(mD t).foldl (nG d) 0:=by
 unfold mi mD;by_cases a:t.k=3
 ·rw[aD a,aD a,h a]
  have:=JI h0 (kJ _) t.e.toNat;simp only[List.foldl_nil,rH,nG];omega
 ·rw[aC a,aC a]
theorem YM (ps:List bp)(t:bp)(n:Int)(b:Nat)(H0 H:aA)(b3:CK H0 b n (fe ps) H)(bo:ps.length<=65535)(aa:t.ar.length<=140737488351232):
  aN prog 204 [.ep b 0 2 0 0,.agg (bS t)] H λd H'=>d=i64 (DF ps n t)/\H0.le H'/\(DF ps n t=0->CK H0 b n (fe (ps++[t])) H'):=by
 obtain⟨d0,ob,hb,hg,a3,A,b9⟩:=b3;have a4:(fe ps).length=ps.length:=sE ps;have a6:=py ps t;have M:(t.k=3->t.ar=[])->mi (fe ps) t=(mD t).foldl (nG (fe ps)) 0:=λh=>O2 h λx hx=>by have:=ya ps x hx;omega
 obtain⟨c,hc⟩:=oX (DF ps n t);have a:=hc;unfold DF at a;rw[<-hc];have al:(mD t).length<=140737488351232:=by unfold mD;split <;> first|exact aa|simp
 obtain⟨pa,u⟩:=oX (mD t);rw[<-u] at a M al;obtain⟨T,a5⟩:=oX (fe ps);rw[<-a5] at hg a4 a6 M a;obtain⟨P,ag⟩:=oX (mi T t);rw[<-ag] at a6 M a;obtain⟨j,um,g,J,m⟩:=t;simp only[bS] at a M aa ⊢;unfold mD at u;simp only at u;have o:=lm iD m;refine dO func204 ntmps204 results204 λw0 g0 Q r=>?_;refine t0 ?_;intro U Y O C;intro c3 b2;refine Y _ ?_;refine cm 3 b2 ?_;(iterate 5 (refine tk trivial ?_;intro U Y O C));refine rl (λs1=>s1.df=[]/\s1.fr 0=.ep b 0 2 0 0/\s1.fr 3=.rp [i64 j,.val (.bool um),i64 g,i64 J,.seq 1 (m.map iD)]/\s1.fr 5=.seq 1 (pa.map iD)/\s1.H=H/\¬(j<0\/4<j)/\¬((j≠3/\(um=true\/g≠0\/J≠0))\/(j≠4/\0<m.length))/\¬(j=3/\(g<0\/n<=g))) ?_ ?_
 ·by_cases L:j=0\/j=1\/j=2
  ·have B:¬j=3:=by omega
   have E:¬j=4:=by omega
   rw[aC B] at u;have K:=u.symm;subst K;rw[aC (show ¬(j<0\/4<j) by omega)] at a;by_cases h5:um=true
   ·rw[aD (.inl ⟨B,.inl h5⟩)] at a
    subst h5;rcases L with rfl|rfl|rfl <;> (refine t0 ?_;intro U Y O C;refine⟨by simp,?_⟩;refine rt r trivial ?_;exact⟨_,aF _,by rw[a] <;> rfl,A,λh=>by rw[a] at h;cases h⟩)
   have a2:um=false:=by simpa using h5
   subst a2;by_cases G:g=0
   case neg=>
    have p:(g=0)=False:=aI G;rw[aD (.inl ⟨B,.inr (.inl G)⟩)] at a;rcases L with rfl|rfl|rfl <;> (refine tq p ?_;intro U Y O C;refine⟨by simp,?_⟩;refine rt r trivial ?_;exact⟨_,aF _,by rw[a] <;> rfl,A,λh=>by rw[a] at h;cases h⟩)
   have p:(g=0)=True:=aG G;by_cases v:J=0
   case neg=>
    have w:(J=0)=False:=aI v;rw[aD (.inl ⟨B,.inr (.inr v)⟩)] at a;rcases L with rfl|rfl|rfl <;> (refine tq (av p w) ?_;intro U Y O C;refine⟨by simp,?_⟩;refine rt r trivial ?_;exact⟨_,aF _,by rw[a] <;> rfl,A,λh=>by rw[a] at h;cases h⟩)
   have w:(J=0)=True:=aG v;by_cases N:0<m.length
   ·have q8:=nT ((0:Int)<(m.length:Int))
    rw[aD (.inr ⟨E,N⟩)] at a;rcases L with rfl|rfl|rfl <;> (refine tq (cA p w q8 o) ?_;intro U Y O C;refine⟨by simp,?_⟩;refine rt r trivial ?_;exact⟨_,aF _,by rw[a] <;> rfl,A,λh=>by rw[a] at h;cases h⟩)
   ·have q8:=nF ((0:Int)<(m.length:Int))
    have a0:¬((j≠3/\(false=true\/g≠0\/J≠0))\/(j≠4/\0<m.length)):=by rintro(⟨_,h|h|h⟩|⟨_,h⟩) <;> first|exact h G|exact h v|exact N h|cases h
    have bf:¬(j=3/\(g<0\/n<=g)):=λh=>B h.1;rcases L with rfl|rfl|rfl <;> (refine tq (cA p w q8 o) ?_;intro U Y O C;exact⟨rfl,rfl,rfl,rfl,rfl,by decide,a0,bf⟩)
  by_cases B:j=3
  ·subst B
   rw[aD rfl] at u;have K:=u.symm;subst K;rw[aC (by decide)] at a;by_cases N:0<m.length
   ·have q8:=nT ((0:Int)<(m.length:Int))
    rw[aD (.inr ⟨by decide,N⟩)] at a;refine tq (av q8 o) ?_;intro U Y O C;refine⟨by simp,?_⟩;refine rt r trivial ?_;exact⟨_,aF _,by rw[a] <;> rfl,A,λh=>by rw[a] at h;cases h⟩
   have q8:=nF ((0:Int)<(m.length:Int));have a0:¬(((3:Int)≠3/\(um=true\/g≠0\/J≠0))\/((3:Int)≠4/\0<m.length)):=by rintro(⟨h,_⟩|⟨_,h⟩) <;> first|exact h rfl|exact N h
   rw[aC a0] at a;by_cases h9:g<0
   ·have R:(g<0)=True:=aG h9
    rw[aD ⟨rfl,.inl h9⟩] at a;refine tq (av q8 o) ?_;intro U Y O C;refine dE (λ_ _ _ _=>False) λU Y=>?_;refine dst (av R hb) ?_;intro U Y O C;refine t0 ?_;intro U Y O C;refine⟨by simp,?_⟩;refine rt r trivial ?_;exact⟨_,aF _,by rw[a] <;> rfl,A,λh=>by rw[a] at h;cases h⟩
   have R:(g<0)=False:=aI h9;by_cases a1:n<=g
   ·have a7:(n<=g)=True:=aG a1
    rw[aD ⟨rfl,.inr a1⟩] at a;refine tq (av q8 o) ?_;intro U Y O C;refine dE (λ_ _ _ _=>False) λU Y=>?_;refine dst (bQ R a7 hb) ?_;intro U Y O C;refine t0 ?_;intro U Y O C;refine⟨by simp,?_⟩;refine rt r trivial ?_;exact⟨_,aF _,by rw[a] <;> rfl,A,λh=>by rw[a] at h;cases h⟩
   have a7:(n<=g)=False:=aI a1;refine tq (av q8 o) ?_;intro U Y O C;refine dE (λ_ _ _ _=>False) λU Y=>?_;refine dst (bQ R a7 hb) ?_;intro U Y O C;refine tz ?_;exact⟨rfl,rfl,rfl,rfl,rfl,by decide,a0,by omega⟩
  rw[aC B] at u;have K:=u.symm;subst K;by_cases E:j=4
  ·subst E
   rw[aC (by decide)] at a;by_cases h5:um=true
   ·rw[aD (.inl ⟨B,.inl h5⟩)] at a
    subst h5;refine t0 ?_;intro U Y O C;refine⟨by simp,?_⟩;refine rt r trivial ?_;exact⟨_,aF _,by rw[a] <;> rfl,A,λh=>by rw[a] at h;cases h⟩
   have a2:um=false:=by simpa using h5
   subst a2;by_cases G:g=0
   case neg=>
    have p:(g=0)=False:=aI G;rw[aD (.inl ⟨B,.inr (.inl G)⟩)] at a;refine tq p ?_;intro U Y O C;refine⟨by simp,?_⟩;refine rt r trivial ?_;exact⟨_,aF _,by rw[a] <;> rfl,A,λh=>by rw[a] at h;cases h⟩
   have p:(g=0)=True:=aG G;by_cases v:J=0
   case neg=>
    have w:(J=0)=False:=aI v;rw[aD (.inl ⟨B,.inr (.inr v)⟩)] at a;refine tq (av p w) ?_;intro U Y O C;refine⟨by simp,?_⟩;refine rt r trivial ?_;exact⟨_,aF _,by rw[a] <;> rfl,A,λh=>by rw[a] at h;cases h⟩
   have w:(J=0)=True:=aG v;refine tn (av p w) ?_;exact⟨rfl,rfl,rfl,rfl,rfl,by decide,(by rintro(⟨_,h|h|h⟩|⟨h,_⟩) <;> first|exact h G|exact h v|exact h rfl|cases h),λh=>B h.1⟩
  ·have q0:=nF (j=0)
   have q1:=nF (j=1);have q2:=nF (j=2);have q3:=nF (j=3);have I:=nF (j=4);rw[aD (show j<0\/4<j by omega)] at a;refine tq (cw q0 q1 q2 q3 I) ?_;intro U Y O C;refine⟨by simp,?_⟩;refine rt r trivial ?_;exact⟨_,aF _,by rw[a] <;> rfl,A,λh=>by rw[a] at h;cases h⟩
 rintro s1 ⟨s,g0,g3,g5,V,ba,ak,bb⟩;rw[aC ba,aC ak,aC bb] at a;have y:H0.le s1.H:=by rw[V];exact A
 obtain⟨H1,bi⟩:=oX s1.H;refine tq (av g0 g5) ?_;intro U Y O C;refine(Rl n T pa b ob d0 H0 s1.H (by rw[V];exact hb) (by rw[V];exact hg) al (by omega)).mono ?_;rintro d _ ⟨rfl,rfl⟩;by_cases S:∀f∈pa,0<=f/\f<T.length
 case neg=>
  rw[aC S];rw[aD (by rw[<-a4];exact S)] at a;refine ur r trivial s ?_;exact⟨_,aF _,by rw[a] <;> rfl,y,λh=>by rw[a] at h;cases h⟩
 rw[aD S];rw[aC (show ¬¬_ from λh=>h (by rw[<-a4];exact S))] at a;have b0:List.foldl (nG T) 0 pa=P:=(M λB=>by
  have N:¬(j≠4/\0<m.length):=λh=>ak (.inr h);exact cy (by omega)).symm
 rw[b0];have ae:=ya ps;have b7:=yi (d:=T) (b:=ps.length) (λx hx=>(ae x (a5▸hx)).2) (by omega) ⟨j,um,g,J,m⟩;have b8:=yh (d:=T) (λx hx=>by have:=ae x (a5▸hx);omega) ⟨j,um,g,J,m⟩;rw[<-ag] at b7 b8;have w5:IntKind.i64.wrap (P+1)=P+1:=aP (by omega);(iterate 2 (refine tk trivial ?_;intro U Y O C));refine rl (λs2=>s2.df=[]/\s2.fr 0=.ep b 0 2 0 0/\s2.fr 6=i64 P/\s2.H=s1.H/\¬(j=4/\(m.length=0\/65535<m.length))/\¬32<=P) ?_ ?_
 ·by_cases v:32<=P
  ·have R:(32<=P)=True:=aG v
   by_cases E:j=4
   ·have I:(j=4)=True:=aG E
    by_cases G:m.length=0
    ·have p:=nT ((m.length:Int)=0)
     rw[aD ⟨E,.inl G⟩] at a;refine tq (cA g3 I p o) ?_;intro U Y O C;refine⟨by simp,?_⟩;refine rt r s ?_;exact⟨_,aF _,by rw[a] <;> rfl,y,λh=>by rw[a] at h;cases h⟩
    have p:=nF ((m.length:Int)=0);by_cases N:65535<m.length
    ·have w:=nT ((65535:Int)<(m.length:Int))
     rw[aD ⟨E,.inr N⟩] at a;refine tq (cw g3 I p w o) ?_;intro U Y O C;refine⟨by simp,?_⟩;refine rt r s ?_;exact⟨_,aF _,by rw[a] <;> rfl,y,λh=>by rw[a] at h;cases h⟩
    have w:=nF ((65535:Int)<(m.length:Int));rw[aC (show ¬(j=4/\(m.length=0\/65535<m.length)) by omega),aD v] at a;refine tq (eP g3 I p w R o) ?_;intro U Y O C;refine⟨by simp,?_⟩;refine rt r s ?_;exact⟨_,aF _,by rw[a] <;> rfl,y,λh=>by rw[a] at h;cases h⟩
   ·have I:(j=4)=False:=aI E
    rw[aC (show ¬(j=4/\(m.length=0\/65535<m.length)) by omega),aD v] at a;refine tq (cA g3 I R o) ?_;intro U Y O C;refine⟨by simp,?_⟩;refine rt r s ?_;exact⟨_,aF _,by rw[a] <;> rfl,y,λh=>by rw[a] at h;cases h⟩
  ·have R:(32<=P)=False:=aI v
   by_cases E:j=4
   ·have I:(j=4)=True:=aG E
    by_cases G:m.length=0
    ·have p:=nT ((m.length:Int)=0)
     rw[aD ⟨E,.inl G⟩] at a;refine tq (cA g3 I p o) ?_;intro U Y O C;refine⟨by simp,?_⟩;refine rt r s ?_;exact⟨_,aF _,by rw[a] <;> rfl,y,λh=>by rw[a] at h;cases h⟩
    have p:=nF ((m.length:Int)=0);by_cases N:65535<m.length
    ·have w:=nT ((65535:Int)<(m.length:Int))
     rw[aD ⟨E,.inr N⟩] at a;refine tq (cw g3 I p w o) ?_;intro U Y O C;refine⟨by simp,?_⟩;refine rt r s ?_;exact⟨_,aF _,by rw[a] <;> rfl,y,λh=>by rw[a] at h;cases h⟩
    have w:=nF ((65535:Int)<(m.length:Int));refine tn (eP g3 I p w R o) ?_;exact⟨s,g0,rfl,rfl,by omega,v⟩
   ·have I:(j=4)=False:=aI E
    refine tn (cA g3 I R o) ?_;exact⟨s,g0,rfl,rfl,by omega,v⟩
 rintro s2 ⟨aw,k0,k6,Z,bc,be⟩;rw[aC bc,aC be] at a;rw[V] at Z;have ab:s2.H b=some (.row 299 0 2 [[i64 n,d0]]):=by rw[Z];exact hb
 have b6:Gl H0 3 1 (T.map iD) d0 s2.H ob:=by rw[Z];exact hg
 have ap:H0.le s2.H:=by rw[Z];exact A
 have b5:=lm iD T;have b4:D.cells d0=some [d0]:=hg.cells;refine tq (cw k0 k6 w5 ab b4) ?_;intro U Y O C;refine ax (e:=3) fk rfl fk rfl yv rfl (by decide) (ap) (b6) (new:=[iD (P+1)]) (by exact⟨rfl,rfl⟩) (by rw[b5];show(_+1) * _<=_;omega) λd3 H3 am MU a8 hp=>?_;obtain⟨b1,a9⟩:=hp b _ ab b9;have ad:Gl H0 3 1 ((T++[P+1]).map iD) d3 H3 am:=by rw[bI];exact MU
 obtain⟨c4,o4,ac,bm,bk⟩:=Gl.os ad (by simp);have bl:=ac;subst ac;refine eV (av k0 b1) ?_;refine nx ?_;refine ur r trivial aw ?_;refine⟨_,aF _,by rw[a] <;> rfl,λx z hz=>?_,λ_=>⟨_,am,aK _ _ _,?_,a3,λx z hz=>?_,a9⟩⟩
 ·have e:x≠b:=λe=>by rw[e,a3] at hz;cases hz
  show(H3.aU b _) x=_;rw[aJ e];exact a8 _ _ hz
 ·rw[a6]
  exact ad.cM λx hx=>aJ λe=>a9 (by rw[hx,e])
 ·have e:x≠b:=λe=>by rw[e,a3] at hz;cases hz
  show(H3.aU b _) x=_;rw[aJ e];exact a8 _ _ hz
theorem CK.start (n:Int)(h:H0 b=none):CK H0 b n (fe []) (H0.aU b (.row 299 0 2 [[i64 n,.val (.slice none 0 0)]])):=
 ⟨_,none,aK _ _ _,eB _ _ _ _,h,λx z a=>by rw[aJ (λe=>by rw[e,h] at a;cases a)];exact a,by simp⟩
theorem CK.le {n:Int}{ds:List Int}(h:CK H0 b n ds H):H0.le H:=by obtain⟨_,_,_,_,_,h,_⟩:=h;exact h
theorem R8 (ts:List bp)(n:Int)(H:aA)(a6:ts.length<=140737488351232)(Z:∀u∈ts,u.ar.length<=140737488351232):
  aN prog 139 [.seq 5 (ts.map bS),i64 n] H λd H'=>d=i64 (rT ts n)/\H=H':=by
 refine aq (K:=λd=>d=i64 (rT ts n)) ?_;have aM:=aF H;have e:=lm bS ts;have g:rT ts n=if 65535<ts.length then 15 else pU n [] ts:=rfl
 refine dO func139 ntmps139 results139 λw0 g0 Q aB=>?_;by_cases h1:65535<ts.length
 ·have q1:=nT ((65535:Int)<(ts.length:Int))
  rw[aD h1] at g;refine ur aB (av e q1) trivial ?_;exact⟨_,aF _,aM,_,aL aM,by rw[g] <;> rfl⟩
 have q1:=nF ((65535:Int)<(ts.length:Int));rw[aC h1] at g;refine tq (av e q1) ?_;intro U Y O C;intro b hb;refine Y _ ?_;refine tn e ?_;refine aO ts.length (λi s=>s.df=[]/\s.fr 0=.seq 5 (ts.map bS)/\s.fr 5=.ep b 0 2 0 0/\s.fr 17=.seq 5 (ts.map bS)/\s.fr 18=i64 ts.length/\s.fr 19=i64 i/\CK H b n (fe (ts.take i)) s.H/\pU n [] (ts.take i)=0) ⟨rfl,rfl,rfl,rfl,rfl,rfl,CK.start n hb,rfl⟩ ?_;rintro i s hi ⟨x,f0,f5,V,z,B,a0,dC⟩;have N:H.le s.H:=a0.le;by_cases j:i<ts.length
 case neg=>
  have q2:=lF i ts.length;rw[bK (by omega)] at dC;refine ur aB (bQ z B q2) x ?_;exact⟨_,aF _,N,_,aL N,by rw[g,dC] <;> rfl⟩
 have q2:=lT i ts.length;have hx:=aX i;have E:=aZ i;have w3:=wS i;have m:=wu (t:=ts[i]) dC;rw[<-bw j,cz] at m;have f:qW (ts.take i) n ts[i]≠0->pU n [] ts=qW (ts.take i) n ts[i]:=λh=>by
  have f:=zn (us:=ts.drop (i+1)) (by rw[m];exact h);rw[ga] at f;rw[f,m]
 have o:=Vo (ps:=ts.take i) (n:=n) (t:=ts[i]);have G:(ts.map bS)[i]?=some (bS ts[i]):=by rw[bg,az j];rfl
 have a2:=Z ts[i] (ao j);have a1:ts.take (i+1)=ts.take i++[ts[i]]:=bw j;obtain⟨u,hu⟩:=oX ts[i];rw[<-hu] at G a2 m f o a1;have a5:(ts.take i).length=i:=by rw[bX];omega
 have S:=λH' (h:CK H b n (fe (ts.take i)) H')=>YM (ts.take i) u n b H H' h (by omega) a2;have T:=λy=>WN (ts.take i) u y (by omega) (λv hv=>Z v (rC hv));obtain⟨L,M,a,J,I⟩:=u;simp only[bS] at G S T;refine tq (bG V z B e q2 G hx (av E j)) ?_;intro U Y O C;intro c7 a3;refine Y _ ?_;refine cm 7 a3 ?_;refine tq f5 ?_;intro U Y O C;refine(S s.H a0).mono ?_;rintro d H1 ⟨rfl,p,w⟩;by_cases k:DF (ts.take i) n ⟨L,M,a,J,I⟩=0
 case neg=>
  have q3:=nF ((DF (ts.take i) n ⟨L,M,a,J,I⟩:Int)=0);rw[aC k] at o;have:=f (by rw[o];exact k);refine ur aB q3 x ?_;exact⟨_,aF _,p,_,aL p,by rw[g,this,o] <;> rfl⟩
 rw[k];rw[aD k] at o;have w:=w k;rw[<-a1] at w;refine t0 ?_;intro U Y O C;have c:cP prog 205 [.seq 5 ((ts.take i).map bS),.agg [i64 L,.val (.bool M),i64 a,i64 J,.seq 1 (I.map iD)]] H1 λd A=>A=aA.none/\d=.eO [i64 (max (oQ ⟨L,M,a,J,I⟩ (ts.take i) 0) 0),.val (.bool (decide ((⟨L,M,a,J,I⟩:bp)∈ts.take i)))]:=an λy a4=>T y;obtain⟨r,hr⟩:=oX (max (oQ ⟨L,M,a,J,I⟩ (ts.take i) 0) 0);rw[<-hr] at c;rw[iK] at c;have P:i<=ts.length:=by omega
 have R:=nT ((i:Int)<=(ts.length:Int));simp only[i64] at c;by_cases hm:(⟨L,M,a,J,I⟩:bp)∈ts.take i
 ·rw[ah hm] at c
  rw[aD hm] at o;have:=f (by rw[o];decide);refine dE (λ_ _ d A=>A=.none/\d=.eO [.val (.int .i64 r),.val (.bool true)]) λU Y=>?_;refine dst (eP f0 e hx E P R) ?_;intro U Y O C;refine⟨c,?_⟩;refine nx ?_;refine dst trivial ?_;intro U Y O C;refine ur aB trivial x ?_;exact⟨_,aF _,p,_,aL p,by rw[g,this,o] <;> rfl⟩
 ·rw[af hm] at c
  rw[aC hm] at o;refine dE (λ_ _ d A=>A=.none/\d=.eO [.val (.int .i64 r),.val (.bool false)]) λU Y=>?_;refine dst (eP f0 e hx E P R) ?_;intro U Y O C;refine⟨c,?_⟩;refine nx ?_;refine dst trivial ?_;intro U Y O C;refine tn (av B w3) ?_;exact⟨j,x,f0,f5,V,z,rfl,w,m.trans o⟩
structure Sb (b:bn):Prop where
 ok:xM b
 nm:cH b.nm.size
 rs:∀s∈b.rg,cH s.size
 ls:∀x∈b.lc,cH x.nm.size
 ts:∀x∈b.bl,cH x.tm.nm.size
theorem Ui (n r t l:Int):wy [n,r,t,l]=if n≠0 then n else if r≠0 then r else if t≠0 then t else if l≠0 then l else 0:=rfl
theorem aCe (I:Bool)(n:Int)(r t:Nat)(l c:Int):(if I=false then 12 else if n≠0 then n else if r≠0 then (r:Int) else if t≠0 then (t:Int) else if l≠0 then l else c)=if I=false then 12 else if wy [n,r,t,l]≠0 then wy [n,r,t,l] else c:=by
 rw[Ui];have h:((r:Int)≠0)↔r≠0:=by omega
 have j:((t:Int)≠0)↔t≠0:=by omega
 simp only[h,j];cases I
 ·rfl
 ·by_cases a:n=0
  ·by_cases e:r=0
   ·by_cases f:t=0
    ·by_cases g:l=0
     ·simp [a,e,f,g]
     ·simp [a,e,f,g]
    ·simp [a,e,f]
   ·simp [a,e]
  ·simp [a]
theorem WE (b:bn)(H:aA)(sb:Sb b):aN prog 64 [.agg (cu b)] H λd H'=>d=i64 (nC b)/\H=H':=by
 refine aq (K:=λd=>d=i64 (nC b)) ?_;have s:=aF H;obtain⟨o1,o2,⟨o3,o4⟩,o5,o6,o7⟩:=sb.ok;have u:=xG b.nm H sb.nm;have M:∀c,cP prog 137 [.seq 1 (b.rg.map sD)] c λd A=>A=aA.none/\d=i64 (kP b.rg):=λc=>an λa j=>Sy b.rg a o1 sb.rs;have N:∀c,cP prog 138 [.seq 2 (b.ol.map pD),i64 b.rg.length] c λd A=>A=aA.none/\d=i64 (fc b.ol b.rg.length):=λc=>an λa j=>GH b.ol _ a o2;have P:∀c,cP prog 139 [.seq 5 (b.ty.map bS),i64 b.rg.length] c λd A=>A=aA.none/\d=i64 (rT b.ty b.rg.length):=λc=>an λa j=>R8 b.ty _ a o3 o4;have z:∀c,cP prog 140 [.agg (cu b)] c λd A=>A=aA.none/\d=i64 (th b):=λc=>an λa j=>Oi b a o5 sb.ls;have R:∀l c,cH l.length->cP prog 136 [.seq 1 (l.map iD)] c λd A=>A=aA.none/\d=i64 (wy l):=λl c w=>an λa j=>JB l a w;have J:=lm sD b.rg;have m:=lm dM b.bl;unfold cH at o6;obtain⟨y,k⟩:=oX (nC b);rw[<-k];unfold nC at k;obtain⟨I,S⟩:=oX (eY b.nm);obtain⟨n,V⟩:=oX (kP b.rg);obtain⟨r,Z⟩:=oX (fc b.ol b.rg.length);obtain⟨t,ht⟩:=oX (rT b.ty b.rg.length);obtain⟨l,w⟩:=oX (th b);rw[<-S] at k u;rw[<-V] at k M;rw[<-Z] at k N;rw[<-ht] at k P;rw[<-w] at k z;clear S V Z ht w;have B:=λc=>R [n,r,t,l] c (by unfold cH;simp);have T:=Ui n r t l;obtain⟨F,E⟩:=oX (wy [n,r,t,l]);simp only[<-E] at B T;simp only[cC,fw,iD] at B;have f:y=if I=false then 12 else if F≠0 then F else if b.bl.length=0\/65535<b.bl.length then 15 else 0:=by rw[k,E];exact aCe I n r t l _
 clear k T E R;rw[jB] at z ⊢;refine dO func64 ntmps64 results64 λw0 g0 Q o=>?_;refine t0 ?_;intro U Y O C;intro c1 G;refine Y _ ?_;refine cm 1 G ?_;refine t0 ?_;intro U Y O C;refine u.q ?_;cases I
 ·have e:y=12:=f
  exact oz o trivial s e
 rw[aC (λh=>by cases h)] at f;refine tq J ?_;intro U Y O C;refine dE (λg _ d A=>A=.none/\d=(if g=some 14 then i64 n else if g=some 18 then i64 r else if g=some 22 then i64 t else if g=some 24 then i64 l else i64 F)) λU Y=>?_;refine dst trivial ?_;intro U Y O C;refine⟨M _,N _,P _,z _,B _,?_⟩;refine nx ?_;by_cases q:F=0
 case neg=>
  have v:(F=0)=False:=aI q;have e:y=F:=f.trans (aD q);exact oz o v s e
 have v:(F=0)=True:=aG q;rw[aC (λh=>h q)] at f;by_cases p:b.bl.length=0
 ·have x:=nT ((b.bl.length:Int)=0)
  have e:y=15:=f.trans (aD (.inl p));exact oz o (bQ v x m) s e
 have x:=nF ((b.bl.length:Int)=0);by_cases p2:65535<b.bl.length
 ·have L:=nT ((65535:Int)<(b.bl.length:Int))
  have e:y=15:=f.trans (aD (.inr p2));exact oz o (cA v x L m) s e
 have L:=nF ((65535:Int)<(b.bl.length:Int));have e:y=0:=f.trans (aC (by omega));exact oz o (cA v x L m) s e
end Go.Proofs.YtffgfafbffdgaaaGreatDoor
