/- Lemmas and contracts of functions, several texts in one. -/
import Derived.Test.YtffgfafbffdgaaaGreatDoorR20
set_option maxRecDepth 100000
set_option maxHeartbeats 4000000
set_option linter.all false
namespace Go.Proofs.YtffgfafbffdgaaaGreatDoor
open Go.RowKit
open Tryz
variable {b i:Nat}{l d:List Int}{H0 H:aA}
def EqI (l m:List Int) (i:Nat) (s:St):Prop:=s.df=[]/\s.fr 0=.seq 1 (l.map iD)/\s.fr 1=.seq 1 (m.map iD)/\s.fr 12=i64 l.length/\s.fr 13=i64 i/\s.H=aA.none/\l.take i=m.take i
theorem Np (l m:List Int)(hl:l.length<=140737488351232):aN prog 338 [.seq 1 (l.map iD),.seq 1 (m.map iD)] .none λd _=>d=.val (.bool (decide (l=m))):=by
 have h:=lm iD l;have j:=lm iD m;refine dO func338 ntmps338 results338 λI F Q w=>?_;by_cases z:l.length=m.length
 case neg=>
  have q:=nF ((l.length:Int)=(m.length:Int));refine ur w (bQ h j q) trivial ?_;exact⟨_,aF _,by rw[af λe=>z (by rw[e])]⟩
 have q:=nT ((l.length:Int)=(m.length:Int));have E:(m.length:Int)=(l.length:Int):=by omega
 refine tn (bQ h j q) ?_;refine aO l.length (EqI l m) ⟨rfl,rfl,rfl,rfl,rfl,rfl,by simp⟩ ?_;rintro i s G ⟨k,x,y,f,a,D,n⟩;have A:=aX i;have o:=aZ i;by_cases c:i<l.length
 case neg=>
  have v:=lF i l.length;rw[bK (by omega),bK (by omega)] at n;refine ur w (bQ f a v) k ?_;exact⟨_,aF _,by rw[ah n]⟩
 have v:=lT i l.length;have g:i<m.length:=by omega
 have p:=bT c;have r:=bT g;have B:=wS i;by_cases u:l[i]=m[i]
 ·have t:(l[i]=m[i])=True:=aG u
  refine tq (bQ f a v) ?_;intro U Y O C;refine dE (λ_ _ _ _=>False) λU Y=>?_;refine dst (bG x y h j p r A (cA o c g t)) ?_;intro U Y O C;refine tq (bQ a B t) ?_;intro U Y O C;refine⟨c,k,x,y,f,rfl,D,?_⟩;rw[bw c,bw g,n,u]
 ·have t:(l[i]=m[i])=False:=aI u
  refine tq (bQ f a v) ?_;intro U Y O C;refine dE (λ_ _ _ _=>False) λU Y=>?_;refine dst (bG x y h j p r A (cA o c g t)) ?_;intro U Y O C;refine ur w (bQ a B t) k ?_;exact⟨_,aF _,by rw[af];rintro rfl;exact u rfl⟩
theorem LP (H:aA)(l m:List Int)(hl:l.length<=140737488351232):aN prog 338 [.seq 1 (l.map iD),.seq 1 (m.map iD)] H λd H'=>d=.val (.bool (decide (l=m)))/\H=H':=
 qf (Np l m hl) rfl (MM (iU _ _) (iU _ _))
theorem qK:∀{l m:List Int},l.Pairwise (·<·)->m.Pairwise (·<·)->(∀x,x∈l↔x∈m)->l=m
 |[],[],_,_,_=>rfl
 |[],b::m,_,_,h=>by have:=(h b).2 (by simp);simp at this
 |a::l,[],_,_,h=>by have:=(h a).1 (by simp);simp at this
 |a::l,b::m,h1,h2,h=>by
  rw[oa] at h1 h2;have f:a=b:=by
   have ha:=(h a).1 (by simp);have hb:=(h b).2 (by simp);rcases bV.1 ha with e|ha
   ·exact e
   rcases bV.1 hb with e|hb
   ·exact e.symm
   have:=h1.1 b hb;have:=h2.1 a ha;omega
  subst f;rw[qK h1.2 h2.2 λx=>?_];constructor
  ·intro c
   have:=h1.1 x c;rcases bV.1 ((h x).1 (dH _ c)) with e|h
   ·omega
   ·exact h
  ·intro c
   have:=h2.1 x c;rcases bV.1 ((h x).2 (dH _ c)) with e|h
   ·omega
   ·exact h
theorem KD {a b:bp}:a=b↔a.k=b.k/\a.m=b.m/\a.r=b.r/\a.e=b.e/\a.ar=b.ar:=by cases a;cases b;simp
theorem Eb {m:List Int}(h:l.take i=m.take i)(h1:i<l.length)(h2:i<m.length)(a:l[i]=m[i]):l.take (i+1)=m.take (i+1):=by rw[bw h1,bw h2,h,a]
theorem O6 (a b:bp)(H:aA)(a1:a.ar.length<=140737488351232):aN prog 33 [.agg (bS a),.agg (bS b)] H λd H'=>d=.val (.bool (decide (a=b)))/\H=H':=by
 refine aq (K:=λd=>d=.val (.bool (decide (a=b)))) ?_;obtain⟨n,o,ar,m,f⟩:=a;obtain⟨q,r,t,p,g⟩:=b;have j:=KD (a:=⟨n,o,ar,m,f⟩) (b:=⟨q,r,t,p,g⟩);simp only at j a1;simp only[bS];have k:=lm iD f;have w:=lm iD g;have E:=aF H;refine dO func33 ntmps33 results33 λw0 g0 Q y=>?_;refine t0 ?_;intro U Y O C;intro W a2 I N;have S:W≠I:=lj (aK _ _ _) N;have a0:H I=none:=(bF.1 N).2;refine Y _ ?_;refine dZ 2 rfl ((aJ S).trans (aK _ _ _)) rfl ?_;refine dZ 3 rfl ((bL S.symm).trans (aK _ _ _)) rfl ?_;refine lB H (λx z T=>?_) ?_
 ·have e1:x≠W:=λe=>by rw[e,a2] at T;cases T
  have e2:x≠I:=λe=>by rw[e,a0] at T;cases T
  show((((H.aU W _).aU I _).del W).del I) x=_;rw[bL e2,bL e1,aJ e2,aJ e1];exact T
 simp only[St.ku,List.drop];by_cases X:n=q
 case neg=>
  have D:(n=q)=False:=aI X;have c:decide ((⟨n,o,ar,m,f⟩:bp)=⟨q,r,t,p,g⟩)=false:=af λh=>X (j.1 h).1;refine ur y D trivial ?_;exact zf E (by rw[c])
 have D:(n=q)=True:=aG X;by_cases Z:o=r
 case neg=>
  have F:(o=r)=False:=aI Z;have c:decide ((⟨n,o,ar,m,f⟩:bp)=⟨q,r,t,p,g⟩)=false:=af λh=>Z (j.1 h).2.1;refine ur y (av D F) trivial ?_;exact zf E (by rw[c])
 have F:(o=r)=True:=aG Z;by_cases g3:ar=t
 case neg=>
  have V:(ar=t)=False:=aI g3;have c:decide ((⟨n,o,ar,m,f⟩:bp)=⟨q,r,t,p,g⟩)=false:=af λh=>g3 (j.1 h).2.2.1;refine ur y (bQ D F V) trivial ?_;exact zf E (by rw[c])
 have V:(ar=t)=True:=aG g3;by_cases g4:m=p
 case neg=>
  have q4:(m=p)=False:=aI g4;have c:decide ((⟨n,o,ar,m,f⟩:bp)=⟨q,r,t,p,g⟩)=false:=af λh=>g4 (j.1 h).2.2.2.1;refine ur y (cA D F V q4) trivial ?_;exact zf E (by rw[c])
 have q4:(m=p)=True:=aG g4;by_cases g5:f.length=g.length
 case neg=>
  have q5:=nF ((f.length:Int)=(g.length:Int));have c:decide ((⟨n,o,ar,m,f⟩:bp)=⟨q,r,t,p,g⟩)=false:=af λh=>g5 (by rw[(j.1 h).2.2.2.2]);refine ur y (ej k w D F V q4 q5) trivial ?_;exact zf E (by rw[c])
 have q5:=nT ((f.length:Int)=(g.length:Int));refine tn (ej k w D F V q4 q5) ?_;refine aO f.length (λi s=>s.df=[]/\s.fr 2=.rp [i64 n,.val (.bool o),i64 ar,i64 m,.seq 1 (f.map iD)]/\s.fr 3=.rp [i64 q,.val (.bool r),i64 t,i64 p,.seq 1 (g.map iD)]/\s.fr 5=i64 i/\s.H=H/\f.take i=g.take i) ⟨rfl,rfl,rfl,rfl,rfl,rfl⟩ ?_;rintro i s hi ⟨A,J,f3,L,hH,B⟩;have hx:=aX i;have M:=aZ i;have G:H.le s.H:=by rw[hH];exact E
 by_cases u:i<f.length
 case neg=>
  have q6:=lF i f.length;rw[bK (by omega),bK (by omega)] at B;have c:decide ((⟨n,o,ar,m,f⟩:bp)=⟨q,r,t,p,g⟩)=true:=ah (j.2 ⟨X,Z,g3,g4,B⟩);refine ur y (cA J L k q6) A ?_;exact zf G (by rw[c])
 have q6:=lT i f.length;have v:i<g.length:=by omega
 have P:=bT u;have R:=bT v;have w3:=wS i;refine tq (cA J L k q6) ?_;intro U Y O C;by_cases he:f[i]=g[i]
 case neg=>
  have q7:(f[i]=g[i])=False:=aI he;have c:decide ((⟨n,o,ar,m,f⟩:bp)=⟨q,r,t,p,g⟩)=false:=af λh=>he (by have:=(j.1 h).2.2.2.2;subst this;rfl);refine dE (λ_ _ _ _=>False) λU Y=>?_;refine dst (bG J f3 L k w P R (cw hx M u v q7)) ?_;intro U Y O C;refine ur y trivial A ?_;exact zf G (by rw[c])
 have q7:(f[i]=g[i])=True:=aG he;refine dE (λ_ _ _ _=>False) λU Y=>?_;refine dst (bG J f3 L k w P R (cw hx M u v q7)) ?_;intro U Y O C;refine tn (av L w3) ?_;exact⟨u,A,J,f3,rfl,hH,Eb B u v he⟩
theorem SY (ts:List bp)(t:bp)(H:aA)(F:ts.length<=140737488351232)(w:∀u∈ts,u.ar.length<=140737488351232):aN p 186 [.seq 5 (ts.map bS),.agg (bS t)] H λd H'=>d=i64 (oQ t ts 0)/\H=H':=by
 refine aq (K:=λd=>d=i64 (oQ t ts 0)) ?_;have f:=lm bS ts;refine dO func186 ntmps186 results186 λZ W Q z=>?_;refine tq @bS.eq_1 ?_;intro U Y O C;intro V x;refine Y _ ?_;refine cm 3 x ?_;refine tz ?_;refine aO ts.length (λi s=>s.df=[]/\s.fr 0=.seq 5 (ts.map bS)/\s.fr 3=.rp (bS t)/\s.fr 5=i64 i/\s.H=H/\oQ t ts 0=oQ t (ts.drop i) i) ⟨rfl,rfl,rfl,rfl,rfl,rfl⟩ ?_;rintro i s X ⟨j,m,q,k,B,h⟩;have D:=aX i;have n:=aZ i;have e:H.le s.H:=by rw[B];exact aF _
 by_cases a:i<ts.length
 case neg=>
  have y:=lF i ts.length;rw[cb (by omega)] at h;refine ur z (cA m k f y) j ?_;exact⟨_,aF _,e,_,aL e,by rw[h] <;> rfl⟩
 have y:=lT i ts.length;have T:=wS i;have o:=w ts[i] (ao a);have g:(ts.map bS)[i]?=some (bS ts[i]):=by rw[bg,az a];rfl
 rw[cL a,oQ] at h;obtain⟨u,G⟩:=oX ts[i];rw[<-G] at g h o;have c:cP p 33 [.agg (bS u),.agg (bS t)] s.H λd A=>A=aA.none/\d=.val (.bool (decide (u=t))):=an λv E=>O6 u t v o;obtain⟨R,S,ur,P,N⟩:=u;obtain⟨tk,L,M,J,I⟩:=t;simp only[bS] at g q c;refine tq (cA m k f y) ?_;intro U Y O C;by_cases r:(⟨R,S,ur,P,N⟩:bp)=⟨tk,L,M,J,I⟩
 ·rw[aD r] at h
  rw[ah r] at c;refine dE (λ_ _ d A=>A=.none/\d=.val (.bool true)) λU Y=>?_;refine dst (bG m q k f g D n a) ?_;intro U Y O C;refine⟨c,?_⟩;refine nx ?_;refine dst trivial ?_;intro U Y O C;refine ur z k j ?_;exact⟨_,aF _,e,_,aL e,by rw[h] <;> rfl⟩
 ·rw[aC r] at h
  rw[af r] at c;refine dE (λ_ _ d A=>A=.none/\d=.val (.bool false)) λU Y=>?_;refine dst (bG m q k f g D n a) ?_;intro U Y O C;refine⟨c,?_⟩;refine nx ?_;refine dst trivial ?_;intro U Y O C;refine tn (av k T) ?_;exact⟨a,j,m,q,rfl,B,h⟩
theorem mM (h:i<d.length):(d.map iD)[i]?=some [.val (.int .i64 (d.getD i 0))]:=by rw[bT h,gZ,az h];rfl
theorem Gl.os {e:TypeId}{d:D}{ob:Option Nat}(h:Gl H0 e 1 (l.map iD) d H ob)(hl:0<l.length):∃c o,d=.os c o 1 0 l.length/\H0 c=none/\H c=some (.row e o 1 (l.map iD)):=by
 rcases h with⟨_,_,h⟩|⟨c,o,_,a,f,g⟩
 ·rw[wN] at h;rw[h] at hl;simp at hl
 ·exact⟨c,o,by rw[a,aS],f,g⟩
theorem JS (ts:List bp)(n:Nat)(H:aA)(hn:n<=ts.length)(b1:ts.length<=1000000)(aa:∀u∈ts,u.ar.length<=140737488351232)(hw:pI (ts.take n)):aN prog 107 [.seq 5 (ts.map bS),i64 n] H λd H'=>d=.seq 1 ((fe (ts.take n)).map iD)/\H=H':=by
 refine aq (K:=λd=>d=.seq 1 ((fe (ts.take n)).map iD)) ?_;have r:=lm bS ts;refine dO func107 ntmps107 results107 λw0 g0 Q aB=>?_;refine tz ?_;refine aO n (λi s=>s.df=[]/\s.fr 0=.seq 5 (ts.map bS)/\s.fr 1=i64 n/\s.fr 6=i64 i/\H.le s.H/\∃ob,Gl H 3 1 ((fe (ts.take i)).map iD) (s.fr 5) s.H ob) ⟨rfl,rfl,rfl,rfl,aF _,none,eB _ _ _ _⟩ ?_;rintro i s hi ⟨J,V,f1,P,aM,ob,R⟩;by_cases ak:i<n
 case neg=>
  have q1:=nF ((i:Int)<(n:Int));have al:i=n:=by omega
  subst al;refine ur aB (bQ f1 P q1) J ?_;exact⟨_,aF _,aM,_,da aM R,rfl⟩
 have q1:=nT ((i:Int)<(n:Int));have B:=aX i;have t:=aZ i;have g:i<ts.length:=by omega
 have w3:=wS i;have h:(ts.map bS)[i]?=some (bS ts[i]):=by rw[bg,az g];rfl
 have a3:=aa ts[i] (ao g);have q:=hw i (by rw[bX];omega);rw[List.getElem_take] at q;have z:=Kt g;have ad:(fe (ts.take i)).length=i:=by rw[sE,bX];omega
 have I:=ya (ts.take i);rw[bX,mZ (by omega)] at I;have M:=yi (b:=i) (λx B=>(I x B).2) (by omega) ts[i];have N:=yh (λx B=>by have:=I x B;omega) ts[i];obtain⟨a,ac⟩:=oX (fe (ts.take i));rw[<-ac] at z ad M N R;have A:mi a ts[i]=ts[i].ar.foldl (nG a) (if ts[i].k=3 then a.getD ts[i].e.toNat 0 else 0):=rfl;obtain⟨u,hu⟩:=oX ts[i];rw[<-hu] at h a3 q z M N A;obtain⟨F,um,ur,E,m⟩:=u;simp only[bS] at h a3 q A;obtain⟨km,a7⟩:=oX (mi a ⟨F,um,ur,E,m⟩);rw[<-a7] at z M N A;have a2:=lm iD m;obtain⟨d5,y⟩:=oX (s.fr 5);rw[<-y] at R;(iterate 12 (refine tk (bG V f1 P q1 h B t (av g r)) ?_;intro U Y O C));refine nR (λs1=>s1.df=[]/\s1.fr 0=.seq 5 (ts.map bS)/\s1.fr 1=i64 n/\s1.fr 6=i64 i/\s1.H=s.H/\s1.fr 5=d5/\s1.fr 7=i64 (if F=3 then a.getD E.toNat 0 else 0)) ?_ ?_
 ·by_cases X:F=3
  ·have q3:(F=3)=True:=aG X
   have ap:=q.1 X;obtain⟨c,o,W,ab,w⟩:=Gl.os R (by omega);rw[y] at W;have L:=mM (d:=a) (i:=E.toNat) (by omega);have G:0<=E:=ap.1;have w9:=nT (E<(a.length:Int));rw[aD X];refine tn (bG V W P q3 h B t (eP g r w L G w9)) ?_;exact⟨J,V,f1,P,rfl,by rw[y,<-W] <;> rfl,rfl⟩
  ·have q3:(F=3)=False:=aI X
   rw[aC X];refine tn (bQ V P q3) ?_;exact⟨J,V,f1,P,rfl,y.symm,rfl⟩
 rintro s1 ⟨a6,g0,g1,g6,a9,g5,g7⟩;refine tz ?_;refine aO m.length (λ(j:Nat) (D:St)=>D.df=[]/\D.fr 0=.seq 5 (ts.map bS)/\D.fr 1=i64 n/\D.fr 6=i64 i/\D.H=s.H/\D.fr 5=d5/\D.fr 8=i64 j/\D.fr 7=i64 ((m.take j).foldl (nG a) (if F=3 then a.getD E.toNat 0 else 0))) ⟨a6,g0,g1,g6,a9,g5,rfl,g7⟩ ?_;rintro j s2 hj ⟨T,k0,k1,k6,v,k5,k8,k7⟩;have am:=aX j;have a8:=aZ j;by_cases p:j<m.length
 case neg=>
  have q2:=lF j m.length;rw[bK (by omega),<-A] at k7;have w4:IntKind.i64.wrap (km+1)=km+1:=aP (by omega);have ag:Gl H 3 1 (a.map iD) (s2.fr 5) s2.H ob:=by rw[k5,v];exact R
  have a5:H.le s2.H:=by rw[v];exact aM
  refine tq (bG k0 k6 k7 k8 q2 w4 h (cw B t g r a2)) ?_;intro U Y O C;refine ax (e:=3) fk rfl fk rfl yv rfl (by decide) a5 ag (new:=[iD (km+1)]) (by exact⟨rfl,rfl⟩) (by rw[aS];show(_+1) * 8<=_;omega) λd H6 b0 a0 a4 _=>?_;rw[show[iD (km+1)]=[km+1].map iD from rfl,<-bI,<-z] at a0;refine tn (av k6 w3) ?_;exact⟨ak,T,k0,k1,rfl,a4,b0,a0⟩
 have q2:=lT j m.length;have a1:=bT p;have Z:=q.2 m[j] (ao p);have S:(m.take (j+1)).foldl (nG a) (if F=3 then a.getD E.toNat 0 else 0)=max ((m.take j).foldl (nG a) (if F=3 then a.getD E.toNat 0 else 0)) (a.getD m[j].toNat 0):=by rw[bw p,mX];rfl
 obtain⟨f,ae⟩:=oX m[j];rw[<-ae] at a1 Z S;obtain⟨c,o,W,ab,w⟩:=Gl.os R (by omega);have aw:=k5.trans W;rw[<-v] at w;have L:=mM (d:=a) (i:=f.toNat) (by omega);have G:0<=f:=Z.1;have w9:=nT (f<(a.length:Int));have w4:=wS j;refine tn (bG k0 aw k6 k7 k8 q2 w4 (bG h B t g r a2 a1 (ej am a8 p w L G w9))) ?_;exact⟨p,T,k0,k1,k6,v,k5,rfl,by rw[S] <;> rfl⟩
theorem Wf (ts:List bp)(i:Int)(H:aA)(t:ts.length<=1000000)(m:∀u∈ts,u.ar.length<=140737488351232)(z:pI ts):aN prog 49 [.seq 5 (ts.map bS),i64 i] H λd H'=>d=i64 (zw ts i)/\H=H':=by
 refine aq (K:=λd=>d=i64 (zw ts i)) ?_;have a:=lm bS ts;have c:=aF H;refine dO func49 ntmps49 results49 λE D Q g=>?_;by_cases w:i<0
 ·have f:(i<0)=True:=aG w
  refine ur g f trivial ?_;exact⟨_,aF _,c,_,aL c,by unfold zw;rw[aC (λh=>by have:=h.1;omega)]⟩
 have f:(i<0)=False:=aI w;by_cases x:(ts.length:Int)<=i
 ·have v:((ts.length:Int)<=i)=True:=aG x
  refine ur g (bQ f v a) trivial ?_;exact⟨_,aF _,c,_,aL c,by unfold zw;rw[aC (λh=>by have:=h.2;omega)]⟩
 have v:((ts.length:Int)<=i)=False:=aI x;have y:bN ts.length i:=⟨by omega,by omega⟩;obtain⟨n,rfl⟩:∃n:Nat,i=n:=⟨i.toNat,by omega⟩;have B:=wS n;have p:(fe (ts.take (n+1))).length=n+1:=by rw[sE,bX];omega
 have e:=mM (d:=fe (ts.take (n+1))) (i:=n) (by omega);have o:(fe (ts.take (n+1))).getD n 0=zw ts n:=by
  unfold zw;rw[aD y,gZ,gZ,aX,NW (by omega) (by omega)]
 rw[o] at e;have A:=aX n;have k:=aZ n;have r:(List.map iD (fe (ts.take (n+1)))).length=n+1:=by rw[aS,p]
 have s:n<n+1:=by omega
 have j:=nT ((n:Int)<((n+1:Nat):Int));refine tq (cA f v a B) ?_;intro U Y O C;refine(JS ts (n+1) _ (by omega) t m (Q5 z _)).q ?_;refine ur g (eP e A k r s j) trivial ?_;exact zf c rfl
theorem SR (ts:List bp)(i:Nat)(n:Int)(H:aA)(hi:i<ts.length)(c0:ts.length<=1000000)(ap:∀u∈ts,u.ar.length<=140737488351232)(hw:pI (ts.take i)):
  aN b3 106 [.seq 5 (ts.map bS),.seq 1 ((fe (ts.take i)).map iD),i64 i,i64 n] H λd H'=>d=i64 (qW (ts.take i) n ts[i])/\H=H':=by
 refine aq (K:=λd=>d=i64 (qW (ts.take i) n ts[i])) ?_;have E:=aF H;have ag:=lm bS ts;have hx:=aX i;have am:=aZ i;have ac:(ts.map bS)[i]?=some (bS ts[i]):=by rw[bg,az hi];rfl
 have b1:=ap ts[i] (ao hi);obtain⟨u,hu⟩:=oX ts[i];rw[<-hu] at ac b1 ⊢;obtain⟨c,hc⟩:=oX (qW (ts.take i) n u);have a:=hc;unfold qW at a;rw[<-hc];have a0:(ts.take i).length=i:=by rw[bX];omega
 rw[a0] at a;obtain⟨g,G,ur,k,e⟩:=u;simp only at a b1;simp only[bS] at ac;have q:=lm iD e;refine dO func106 ntmps106 results106 λw0 g0 Q z=>?_;refine tq (cw ac hx am hi ag) ?_;intro U Y O C;intro c9 be;refine Y _ ?_;refine cm 9 be ?_;by_cases h1:g<0
 ·have q1:(g<0)=True:=aG h1
  rw[aD (.inl h1)] at a;refine ur z q1 trivial ?_;exact⟨_,aF _,E,_,aL E,by rw[a] <;> rfl⟩
 have q1:(g<0)=False:=aI h1;by_cases h2:4<g
 ·have q2:(4<g)=True:=aG h2
  rw[aD (.inr h2)] at a;refine ur z (av q1 q2) trivial ?_;exact⟨_,aF _,E,_,aL E,by rw[a] <;> rfl⟩
 have q2:(4<g)=False:=aI h2;rw[aC (by omega)] at a;(iterate 10 (refine tk (av q1 q2) ?_;intro U Y O C));obtain⟨p,a8⟩:=oX (fe (ts.take i));rw[<-a8] at a ⊢;refine rl (λs1=>s1.df=[]/\s1.fr 0=.seq 5 (ts.map bS)/\s1.fr 1=.seq 1 (p.map iD)/\s1.fr 2=i64 i/\s1.fr 3=i64 n/\s1.fr 9=.rp [i64 g,.val (.bool G),i64 ur,i64 k,.seq 1 (e.map iD)]/\s1.H=H/\¬((g≠3/\(G=true\/ur≠0\/k≠0))\/(g≠4/\0<e.length))) ?_ ?_
 ·by_cases L:g=3
  ·have F:(g=3)=True:=aG L
   have w:¬g=4:=by omega
   have o:(g=4)=False:=aI w;by_cases h5:0<e.length
   ·have v:=nT ((0:Int)<(e.length:Int))
    rw[aD (.inr ⟨w,h5⟩)] at a;refine tq (cA F o v q) ?_;intro U Y O C;refine⟨by simp,?_⟩;refine rt z trivial ?_;exact⟨_,aF _,E,_,aL E,by rw[a] <;> rfl⟩
   ·have v:=nF ((0:Int)<(e.length:Int))
    refine tn (cA F o v q) ?_;exact⟨rfl,rfl,rfl,rfl,rfl,rfl,rfl,by omega⟩
  have F:(g=3)=False:=aI L;by_cases h5:G=true
  ·rw[aD (.inl ⟨L,.inl h5⟩)] at a
   subst h5;refine tq F ?_;intro U Y O C;refine⟨by simp,?_⟩;refine rt z trivial ?_;exact⟨_,aF _,E,_,aL E,by rw[a] <;> rfl⟩
  have ba:G=false:=by simpa using h5
  subst ba;by_cases I:ur=0
  case neg=>
   have y:(ur=0)=False:=aI I;rw[aD (.inl ⟨L,.inr (.inl I)⟩)] at a;refine tq (av F y) ?_;intro U Y O C;refine⟨by simp,?_⟩;refine rt z trivial ?_;exact⟨_,aF _,E,_,aL E,by rw[a] <;> rfl⟩
  have y:(ur=0)=True:=aG I;by_cases W:k=0
  case neg=>
   have R:(k=0)=False:=aI W;rw[aD (.inl ⟨L,.inr (.inr W)⟩)] at a;refine tq (bQ F y R) ?_;intro U Y O C;refine⟨by simp,?_⟩;refine rt z trivial ?_;exact⟨_,aF _,E,_,aL E,by rw[a] <;> rfl⟩
  have R:(k=0)=True:=aG W;by_cases w:g=4
  ·have o:(g=4)=True:=aG w
   refine tn (cA F o y R) ?_;exact⟨rfl,rfl,rfl,rfl,rfl,rfl,rfl,by rintro(⟨_,h|h|h⟩|⟨h,_⟩) <;> first|exact h I|exact h W|exact h w|cases h⟩
  have o:(g=4)=False:=aI w;by_cases h5:0<e.length
  ·have v:=nT ((0:Int)<(e.length:Int))
   rw[aD (.inr ⟨w,h5⟩)] at a;refine tq (eP F o v y R q) ?_;intro U Y O C;refine⟨by simp,?_⟩;refine rt z trivial ?_;exact⟨_,aF _,E,_,aL E,by rw[a] <;> rfl⟩
  ·have v:=nF ((0:Int)<(e.length:Int))
   refine tn (eP F o v y R q) ?_;exact⟨rfl,rfl,rfl,rfl,rfl,rfl,rfl,by rintro(⟨_,h|h|h⟩|⟨_,h⟩) <;> first|exact h I|exact h W|exact h5 h|cases h⟩
 rintro s1 ⟨P,g0,g1,g2,g3,g9,a6,bl⟩;rw[aC bl] at a;have B:H.le s1.H:=by rw[a6];exact E
 (iterate 3 (refine tk trivial ?_;intro U Y O C));have bs:p.length=i:=by rw[a8,sE,a0]
 refine rl (λs2=>s2.df=[]/\s2.fr 0=.seq 5 (ts.map bS)/\s2.fr 1=.seq 1 (p.map iD)/\s2.fr 2=i64 i/\s2.fr 3=i64 n/\s2.fr 9=.rp [i64 g,.val (.bool G),i64 ur,i64 k,.seq 1 (e.map iD)]/\s2.H=H/\s2.fr 10=i64 (if g=3 then p.getD k.toNat 0 else 0)/\¬(g=3/\(ur<0\/n<=ur\/k<0\/(i:Int)<=k))) ?_ ?_
 ·by_cases L:g=3
  case neg=>
   have F:(g=3)=False:=aI L;rw[aC L];refine tn (av g9 F) ?_;exact⟨P,g0,g1,g2,g3,g9,a6,rfl,λh=>L h.1⟩
  have F:(g=3)=True:=aG L;rw[aD L];by_cases w:ur<0
  ·have o:(ur<0)=True:=aG w
   rw[aD ⟨L,.inl w⟩] at a;refine tq (bQ g9 F o) ?_;intro U Y O C;refine⟨by simp,?_⟩;refine rt z P ?_;exact⟨_,aF _,B,_,aL B,by rw[a] <;> rfl⟩
  have o:(ur<0)=False:=aI w;by_cases h5:n<=ur
  ·have v:(n<=ur)=True:=aG h5
   rw[aD ⟨L,.inr (.inl h5)⟩] at a;refine tq (cw g3 g9 F o v) ?_;intro U Y O C;refine⟨by simp,?_⟩;refine rt z P ?_;exact⟨_,aF _,B,_,aL B,by rw[a] <;> rfl⟩
  have v:(n<=ur)=False:=aI h5;by_cases I:k<0
  ·have y:(k<0)=True:=aG I
   rw[aD ⟨L,.inr (.inr (.inl I))⟩] at a;refine tq (eP g3 g9 F o v y) ?_;intro U Y O C;refine⟨by simp,?_⟩;refine rt z P ?_;exact⟨_,aF _,B,_,aL B,by rw[a] <;> rfl⟩
  have y:(k<0)=False:=aI I;by_cases W:(i:Int)<=k
  ·have R:((i:Int)<=k)=True:=aG W
   rw[aD ⟨L,.inr (.inr (.inr W))⟩] at a;refine tq (bG g2 g3 g9 F o v y R) ?_;intro U Y O C;refine⟨by simp,?_⟩;refine rt z P ?_;exact⟨_,aF _,B,_,aL B,by rw[a] <;> rfl⟩
  have R:((i:Int)<=k)=False:=aI W;have ad:=mM (d:=p) (i:=k.toNat) (by omega);have a5:0<=k:=by omega
  have a9:=lm iD p;have w9:k.toNat<p.length:=by omega
  have a3:k<(p.length:Int):=by omega
  refine tn (bG g1 g2 g3 g9 F o v (ej y R ad a5 a9 w9 a3)) ?_;exact⟨P,g0,g1,g2,g3,g9,a6,rfl,by omega⟩
 rintro s2 ⟨b6,f0,f1,f2,f3,f9,bb,b9,bm⟩;rw[aC bm] at a;have b0:mi p ⟨g,G,ur,k,e⟩=e.foldl (nG p) (if g=3 then p.getD k.toNat 0 else 0):=rfl;have a7:=ya (ts.take i);rw[a0,<-a8] at a7;have bf:=yi (b:=i) (λx hx=>(a7 x hx).2) (by omega) ⟨g,G,ur,k,e⟩;have bi:=yh (λx hx=>by have:=a7 x hx;omega) ⟨g,G,ur,k,e⟩;obtain⟨km,b8⟩:=oX (mi p ⟨g,G,ur,k,e⟩);rw[<-b8] at bf bi b0 a;refine tz ?_;refine aO e.length (λj s=>s.df=[]/\s.fr 0=.seq 5 (ts.map bS)/\s.fr 1=.seq 1 (p.map iD)/\s.fr 2=i64 i/\s.fr 9=.rp [i64 g,.val (.bool G),i64 ur,i64 k,.seq 1 (e.map iD)]/\s.H=H/\s.fr 11=i64 j/\s.fr 10=i64 ((e.take j).foldl (nG p) (if g=3 then p.getD k.toNat 0 else 0))/\∀m (h:m<e.length),m<j->¬(e[m]<0\/(i:Int)<=e[m])) ⟨b6,f0,f1,f2,f9,bb,rfl,b9,λm h hm=>by omega⟩ ?_;rintro j s3 hj ⟨J,k0,k1,k2,T,X,a1,S,ak⟩;have D:H.le s3.H:=by rw[X];exact E
 have ae:=aX j;have a4:=aZ j;by_cases M:j<e.length
 case pos=>
  have p1:=lT j e.length;have Z:=bT M;have w4:=wS j;have al:(e.take (j+1)).foldl (nG p) (if g=3 then p.getD k.toNat 0 else 0)=max ((e.take j).foldl (nG p) (if g=3 then p.getD k.toNat 0 else 0)) (p.getD e[j].toNat 0):=by rw[bw M,mX];rfl
  have ab:e[j]∈e:=ao M;obtain⟨f,aw⟩:=oX e[j];rw[<-aw] at Z al ab;by_cases w:f<0
  ·have o:(f<0)=True:=aG w
   rw[aD ⟨f,ab,.inl w⟩] at a;refine ur z (bG T a1 p1 Z ae a4 M (av q o)) J ?_;exact⟨_,aF _,D,_,aL D,by rw[a] <;> rfl⟩
  have o:(f<0)=False:=aI w;by_cases h5:(i:Int)<=f
  ·have v:((i:Int)<=f)=True:=aG h5
   rw[aD ⟨f,ab,.inr h5⟩] at a;refine ur z (bG k2 T a1 p1 Z ae a4 (cA M q o v)) J ?_;exact⟨_,aF _,D,_,aL D,by rw[a] <;> rfl⟩
  have v:((i:Int)<=f)=False:=aI h5;have ad:=mM (d:=p) (i:=f.toNat) (by omega);have a5:0<=f:=by omega
  have a9:=lm iD p;have w9:f.toNat<p.length:=by omega
  have a3:f<(p.length:Int):=by omega
  refine tq (bG k1 k2 T S a1 p1 Z (bG ae a4 M q o v ad (cw a5 a9 w9 a3 w4))) ?_;intro U Y O C;refine⟨M,J,k0,k1,k2,T,X,rfl,by rw[al] <;> rfl,λm hm bt=>?_⟩;by_cases bk:m=j
  ·subst bk;rw[<-aw];omega
  ·exact ak m hm (by omega)
 have p1:=lF j e.length;rw[bK (by omega),<-b0] at S;have bo:¬∃f∈e,f<0\/(i:Int)<=f:=by
  rintro⟨f,hf,hb⟩;obtain⟨m,hm,rfl⟩:=kV hf;exact ak m hm (by omega) hb
 rw[aC bo] at a;have w5:IntKind.i64.wrap (km+1)=km+1:=aP (by omega);(iterate 6 (refine tk (eP T S a1 p1 q w5) ?_;intro U Y O C));refine rl (λs4=>s4.df=[]/\s4.fr 0=.seq 5 (ts.map bS)/\s4.fr 2=i64 i/\s4.fr 9=.rp [i64 g,.val (.bool G),i64 ur,i64 k,.seq 1 (e.map iD)]/\s4.H=H/\s4.fr 10=i64 km/\¬(g=4/\(e.length=0\/65535<e.length))) ?_ ?_
 ·by_cases w:g=4
  case neg=>
   have o:(g=4)=False:=aI w;refine tn (av T o) ?_;exact⟨J,k0,k2,T,X,S,λh=>w h.1⟩
  have o:(g=4)=True:=aG w;by_cases h5:e.length=0
  ·have v:=nT ((e.length:Int)=0)
   rw[aD ⟨w,.inl h5⟩] at a;refine tq (cA T o v q) ?_;intro U Y O C;refine⟨by simp,?_⟩;refine rt z J ?_;exact⟨_,aF _,D,_,aL D,by rw[a] <;> rfl⟩
  have v:=nF ((e.length:Int)=0);by_cases I:65535<e.length
  ·have y:=nT ((65535:Int)<(e.length:Int))
   rw[aD ⟨w,.inr I⟩] at a;refine tq (cw T o v y q) ?_;intro U Y O C;refine⟨by simp,?_⟩;refine rt z J ?_;exact⟨_,aF _,D,_,aL D,by rw[a] <;> rfl⟩
  have y:=nF ((65535:Int)<(e.length:Int));refine tn (cw T o v y q) ?_;exact⟨J,k0,k2,T,X,S,by omega⟩
 rintro s4 ⟨a2,m0,m2,m9,bc,b2,bq⟩;rw[aC bq] at a;have N:H.le s4.H:=by rw[bc];exact E
 by_cases I:32<km+1
 ·have y:(32<km+1)=True:=aG I
  rw[aD I] at a;refine ur z (bQ b2 w5 y) a2 ?_;exact⟨_,aF _,N,_,aL N,by rw[a] <;> rfl⟩
 have y:(32<km+1)=False:=aI I;rw[aC I] at a;refine tq (bQ b2 w5 y) ?_;intro U Y O C;have aa:=FU (t:=⟨g,G,ur,k,e⟩) (l:=ts.take i);have V:cP b3 186 [.seq 5 ((ts.take i).map bS),.agg [i64 g,.val (.bool G),i64 ur,i64 k,.seq 1 (e.map iD)]] s4.H λd A=>A=aA.none/\d=i64 (oQ ⟨g,G,ur,k,e⟩ (ts.take i) 0):=an λb4 br=>SY (ts.take i) ⟨g,G,ur,k,e⟩ b4 (by rw[a0];omega) (λu hu=>ap u (rC hu));obtain⟨r,hr⟩:=oX (oQ ⟨g,G,ur,k,e⟩ (ts.take i) 0);rw[<-hr] at V aa;rw[iK] at V;have b5:i<=ts.length:=by omega
 have b7:=nT ((i:Int)<=(ts.length:Int));simp only[i64] at V;refine dE (λ_ _ d A=>A=.none/\d=.val (.int .i64 r)) λU Y=>?_;refine dst (bG m0 m2 m9 ag hx am b5 b7) ?_;intro U Y O C;refine⟨V,?_⟩;refine nx ?_;by_cases hm:(⟨g,G,ur,k,e⟩:bp)∈ts.take i
 ·have R:(0<=r)=True:=aG (aa.2 hm)
  rw[aD hm] at a;refine ur z R a2 ?_;exact⟨_,aF _,N,_,aL N,by rw[a] <;> rfl⟩
 ·have R:(0<=r)=False:=aI λh=>hm (aa.1 h)
  rw[aC hm] at a;refine ur z R a2 ?_;exact⟨_,aF _,N,_,aL N,by rw[a] <;> rfl⟩
theorem OX (ts:List bp)(n:Int)(H:aA)(N:ts.length<=140737488351232)(k:∀u∈ts,u.ar.length<=140737488351232):
  aN prog 48 [.seq 5 (ts.map bS),i64 n] H λd H'=>d=i64 (rT ts n)/\H=H':=by
 refine aq (K:=λd=>d=i64 (rT ts n)) ?_;have A:=aF H;have f:=lm bS ts;have a:rT ts n=if 65535<ts.length then 15 else pU n [] ts:=rfl
 refine dO func48 ntmps48 results48 λV S Q y=>?_;by_cases I:65535<ts.length
 ·have E:=nT ((65535:Int)<(ts.length:Int))
  rw[aD I] at a;refine ur y (av f E) trivial ?_;exact⟨_,aF _,A,_,aL A,by rw[a] <;> rfl⟩
 have E:=nF ((65535:Int)<(ts.length:Int));rw[aC I] at a;refine tq (av f E) ?_;intro U Y O C;refine RK 5 (.seq 1 []) (λw v P=>fO _ _ _ P) ?_;refine aO ts.length (λi s=>s.df=[]/\s.fr 0=.seq 5 (ts.map bS)/\s.fr 1=i64 n/\s.fr 5=.seq 1 ((fe (ts.take i)).map iD)/\s.fr 6=i64 i/\s.H=H/\pU n [] (ts.take i)=0) ⟨rfl,rfl,rfl,rfl,rfl,rfl,rfl⟩ ?_;rintro i s T ⟨g,p,G,M,r,J,o⟩;have e:H.le s.H:=by rw[J];exact A
 by_cases h:i<ts.length
 case neg=>
  have F:=lF i ts.length;rw[bK (by omega)] at o;refine ur y (cA p r f F) g ?_;exact⟨_,aF _,e,_,aL e,by rw[a,o] <;> rfl⟩
 have F:=lT i ts.length;have L:=wS i;have D:pI (ts.take i):=wA (n:=n) λm B=>by simpa using y9.1 o m B
 have c:=wu (t:=ts[i]) o;rw[<-bw h,cz] at c;refine tq (eP p G M r f F) ?_;intro U Y O C;refine(SR ts i n _ h (by omega) k D).q ?_;by_cases x:qW (ts.take i) n ts[i]=0
 case neg=>
  have R:=nF ((qW (ts.take i) n ts[i]:Int)=0);have j:=zn (us:=ts.drop (i+1)) (by rw[c];exact x);rw[ga] at j;refine ur y R g ?_;exact⟨_,aF _,e,_,aL e,by rw[a,j,c] <;> rfl⟩
 have z:pI (ts.take (i+1)):=wA (n:=n) λm B=>by simpa using y9.1 (c.trans x) m B
 rw[x];refine tq (bQ p r L) ?_;intro U Y O C;refine(JS ts (i+1) _ (by omega) (by omega) k z).qs (av r L) ?_;intro U Y O C;exact⟨h,g,p,G,rfl,rfl,J,c.trans x⟩
theorem Z0 (a b:bp)(H:aA)(y:a.ar.length<=140737488351232):aN prog 280 [.agg (bS a),.agg (bS b)] H λd H'=>d=.val (.bool (decide (a=b)))/\H=H':=by
 refine aq (K:=λd=>d=.val (.bool (decide (a=b)))) ?_;obtain⟨k,m,ar,j,g⟩:=a;obtain⟨p,r,s,o,n⟩:=b;have f:=KD (a:=⟨k,m,ar,j,g⟩) (b:=⟨p,r,s,o,n⟩);simp only at f y;simp only[bS];have v:=aF H;refine dO func280 ntmps280 results280 λW V Q u=>?_;refine t0 ?_;intro U Y O C;intro F P w A;have B:F≠w:=lj (aK _ _ _) A;have N:H w=none:=(bF.1 A).2;refine Y _ ?_;refine dZ 2 rfl ((aJ B).trans (aK _ _ _)) rfl ?_;refine dZ 3 rfl ((bL B.symm).trans (aK _ _ _)) rfl ?_;refine lB H (λx z D=>?_) ?_
 ·have S:x≠F:=λe=>by rw[e,P] at D;cases D
  have T:x≠w:=λe=>by rw[e,N] at D;cases D
  show((((H.aU F _).aU w _).del F).del w) x=_;rw[bL T,bL S,aJ T,aJ S];exact D
 simp only[St.ku,List.drop];by_cases G:k=p
 case neg=>
  have t:(k=p)=False:=aI G;have c:decide ((⟨k,m,ar,j,g⟩:bp)=⟨p,r,s,o,n⟩)=false:=af λh=>G (f.1 h).1;refine ur u t trivial ?_;exact zf v (by rw[c])
 have t:(k=p)=True:=aG G;by_cases I:m=r
 case neg=>
  have E:(m=r)=False:=aI I;have c:decide ((⟨k,m,ar,j,g⟩:bp)=⟨p,r,s,o,n⟩)=false:=af λh=>I (f.1 h).2.1;refine ur u (av t E) trivial ?_;exact zf v (by rw[c])
 have E:(m=r)=True:=aG I;by_cases J:ar=s
 case neg=>
  have M:(ar=s)=False:=aI J;have c:decide ((⟨k,m,ar,j,g⟩:bp)=⟨p,r,s,o,n⟩)=false:=af λh=>J (f.1 h).2.2.1;refine ur u (bQ t E M) trivial ?_;exact zf v (by rw[c])
 have M:(ar=s)=True:=aG J;by_cases L:j=o
 case neg=>
  have R:(j=o)=False:=aI L;have c:decide ((⟨k,m,ar,j,g⟩:bp)=⟨p,r,s,o,n⟩)=false:=af λh=>L (f.1 h).2.2.2.1;refine ur u (cA t E M R) trivial ?_;exact zf v (by rw[c])
 have R:(j=o)=True:=aG L;have c:decide ((⟨k,m,ar,j,g⟩:bp)=⟨p,r,s,o,n⟩)=decide (g=n):=by
  have:((⟨k,m,ar,j,g⟩:bp)=⟨p,r,s,o,n⟩)=(g=n):=propext ⟨λh=>(f.1 h).2.2.2.2,λh=>f.2 ⟨G,I,J,L,h⟩⟩;simp only[this]
 refine tq (cA t E M R) ?_;intro U Y O C;refine(LP H g n y).q ?_;refine u0 u ?_;exact zf v (by rw[c])
theorem WT (x t:bp)(H:aA)(a:x.ar.length<=140737488351232):aN prog 279 [.agg (bS x),.rp (bS t)] H λd H'=>d=.val (.bool (decide (x=t)))/\H=H':=by
 refine aq (K:=λd=>d=.val (.bool (decide (x=t)))) ?_;have e:=Z0 x t H a;obtain⟨u,v,w,s,r⟩:=x;obtain⟨tk,n,o,m,k⟩:=t;simp only[bS] at e ⊢;have g:=aF H;refine dO func279 ntmps279 results279 λp j Q f=>?_;refine t0 ?_;intro U Y O C;intro h c;refine Y _ ?_;refine cm 2 c ?_;refine t0 ?_;intro U Y O C;refine e.q ?_;refine u0 f ?_;exact zf g rfl
theorem W6 (ts:List bp)(t:bp)(H:aA)(A:ts.length<=140737488351232)(r:∀u∈ts,u.ar.length<=140737488351232):aN prog 278 [.seq 5 (ts.map bS),.fn 279 [.rp (bS t)]] H λd H'=>d=i64 (oQ t ts 0)/\H=H':=by
 refine aq (K:=λd=>d=i64 (oQ t ts 0)) ?_;have h:=lm bS ts;have R:=aF H;refine dO func278 ntmps278 results278 λV S Q w=>?_;refine tn h ?_;refine aO ts.length (λi s=>s.df=[]/\s.fr 0=.seq 5 (ts.map bS)/\s.fr 1=.fn 279 [.rp (bS t)]/\s.fr 7=i64 ts.length/\s.fr 8=i64 i/\s.H=H/\oQ t ts 0=oQ t (ts.drop i) i) ⟨rfl,rfl,rfl,rfl,rfl,rfl,rfl⟩ ?_;rintro i s T ⟨f,x,n,o,k,y,e⟩;have D:=aX i;have p:=aZ i;have c:H.le s.H:=by rw[y];exact aF _
 by_cases a:i<ts.length
 case neg=>
  have v:=lF i ts.length;rw[cb (by omega)] at e;refine ur w (bQ o k v) f ?_;exact⟨_,aF _,c,_,aL c,by rw[e] <;> rfl⟩
 have v:=lT i ts.length;have P:=wS i;have j:=r ts[i] (ao a);have g:(ts.map bS)[i]?=some (bS ts[i]):=by rw[bg,az a];rfl
 rw[cL a,oQ] at e;obtain⟨u,B⟩:=oX ts[i];rw[<-B] at g e j;have z:=WT u t s.H j;obtain⟨M,N,ur,L,J⟩:=u;obtain⟨tk,G,I,F,E⟩:=t;simp only[bS] at g n z;refine tq (bG x n o k h v g (bQ D p a)) ?_;intro U Y O C;refine z.q ?_;by_cases m:(⟨M,N,ur,L,J⟩:bp)=⟨tk,G,I,F,E⟩
 ·rw[aD m] at e
  rw[ah m];refine ur w k f ?_;exact⟨_,aF _,c,_,aL c,by rw[e] <;> rfl⟩
 ·rw[aC m] at e
  rw[af m];refine tn (av k P) ?_;exact⟨a,f,x,n,o,rfl,y,e⟩
theorem WN (ts:List bp)(t:bp)(H:aA)(j:ts.length<=140737488351232)(e:∀u∈ts,u.ar.length<=140737488351232):aN prog 205 [.seq 5 (ts.map bS),.agg (bS t)] H λd H'=>d=.eO [i64 (max (oQ t ts 0) 0),.val (.bool (decide (t∈ts)))]/\H=H':=by
 refine aq (K:=λd=>d=.eO [i64 (max (oQ t ts 0) 0),.val (.bool (decide (t∈ts)))]) ?_;have g:=W6 ts t H j e;have a:=FU (t:=t) (l:=ts);obtain⟨r,o⟩:=oX (oQ t ts 0);rw[<-o] at g a ⊢;obtain⟨tk,x,y,w,v⟩:=t;simp only[bS] at g ⊢;have n:=aF H;refine dO func205 ntmps205 results205 λz s Q m=>?_;refine t0 ?_;intro U Y O C;intro p f;refine Y _ ?_;refine cm 3 f ?_;refine t0 ?_;intro U Y O C;refine g.q ?_;by_cases c:0<=r
 ·have k:(0<=r)=True:=aG c
  refine ur m k trivial ?_;exact zf n (by rw[ah (a.1 c)])
 ·have k:(0<=r)=False:=aI c
  refine ur m k trivial ?_;exact zf n (by rw[af λh=>c (a.2 h)])
def CK (H0:aA) (b:Nat) (n:Int) (ds:List Int) (H:aA):Prop:=
 ∃d a,H b=some (.row 299 0 2 [[i64 n,d]])/\Gl H0 3 1 (ds.map iD) d H a/\H0 b=none/\H0.le H/\a≠some b
theorem Rl (n:Int)(ds l:List Int)(b:Nat)(ob:Option Nat)(d:D)(H0 H:aA)(hb:H b=some (.row 299 0 2 [[i64 n,d]]))(hg:Gl H0 3 1 (ds.map iD) d H ob)(hl:l.length<=140737488351232)(a0:ds.length<=140737488351232):
  aN prog 277 [.ep b 0 2 0 0,.seq 1 (l.map iD)] H λr H'=>r=.eO (if ∀f∈l,0<=f/\f<ds.length then [i64 (l.foldl (nG ds) 0),.val (.bool true)] else [i64 0,.val (.bool false)])/\H'=H:=by
 have t:=lm iD l;have K:=lm iD ds;refine dO func277 ntmps277 results277 λw0 g0 Q P=>?_;refine tn t ?_;refine aO l.length (λi s=>s.df=[]/\s.fr 0=.ep b 0 2 0 0/\s.fr 6=i64 ((l.take i).foldl (nG ds) 0)/\s.fr 9=.seq 1 (l.map iD)/\s.fr 10=i64 l.length/\s.fr 11=i64 i/\s.H=H/\∀m (h:m<l.length),m<i->0<=l[m]/\l[m]<ds.length) ⟨rfl,rfl,rfl,rfl,rfl,rfl,rfl,λm h h'=>by omega⟩ ?_;rintro i s hi ⟨p,E,v,F,g,k,w,z⟩;have S:=aX i;have u:=aZ i;by_cases a:i<l.length
 case neg=>
  have y:=lF i l.length;have ha:∀f∈l,0<=f/\f<ds.length:=λf x=>by
   obtain⟨m,X,rfl⟩:=kV x;exact z m X (by omega)
  rw[bK (by omega)] at v;refine ur P (cA v g k y) p ?_;exact⟨_,aF _,by rw[aD ha] <;> rfl,w⟩
 have y:=lT i l.length;have w3:=wS i;have q:=bT a;have j:s.H b=some (.row 299 0 2 [[i64 n,d]]):=by rw[w];exact hb
 have L:Gl H0 3 1 (ds.map iD) d s.H ob:=by rw[w];exact hg
 obtain⟨f,x⟩:=oX l[i];have A:f∈l:=by rw[x];exact ao a
 have T:0<=f/\f<ds.length->∀m (h:m<l.length),m<i+1->0<=l[m]/\l[m]<ds.length:=λh m X a2=>by
  by_cases e:m=i
  ·subst e;rw[<-x];exact h
  ·exact z m X (by omega)
 have B:(l.take (i+1)).foldl (nG ds) 0=max ((l.take i).foldl (nG ds) 0) (ds.getD f.toNat 0):=by rw[bw a,mX,<-x];rfl
 rw[<-x] at q;obtain⟨mx,Z⟩:=oX ((l.take i).foldl (nG ds) 0);rw[<-Z] at v B;by_cases h1:f<0
 ·have M:(f<0)=True:=aG h1
  have R:¬∀f∈l,0<=f/\f<ds.length:=λh=>by have:=h f A;omega
  refine ur P (bG E v F g k y q (cw S u a t M)) p ?_;exact⟨_,aF _,by rw[aC R] <;> rfl,w⟩
 have M:(f<0)=False:=aI h1;by_cases h2:f<ds.length
 case neg=>
  have R:¬∀f∈l,0<=f/\f<ds.length:=λh=>by have:=h f A;omega
  rcases L with⟨_,J,h0⟩|⟨c,o,_,J,h0,I⟩
  ·have a1:ds=[]:=by simpa using h0
   have N:=nT (0<=f);rw[J] at j;refine ur P (bG E v F g k y q (ej S u a t M N j)) p ?_;exact⟨_,aF _,by rw[aC R] <;> rfl,w⟩
  ·have N:=nT ((ds.length:Int)<=f)
   rw[J,K] at j;refine ur P (bG E v F g k y q (ej S u a t M N j)) p ?_;exact⟨_,aF _,by rw[aC R] <;> rfl,w⟩
 have N:=nF ((ds.length:Int)<=f);obtain⟨c,o,J,h0,I⟩:=Gl.os L (by omega);have W:=mM (d:=ds) (i:=f.toNat) (by omega);have G:0<=f:=by omega
 have V:f.toNat<ds.length:=by omega
 rw[J] at j;refine tn (bG E v F g k y q (bG S u a t M N j (ej I W G V h2 K w3))) ?_;exact⟨a,p,E,by rw[B] <;> rfl,F,g,rfl,w,T ⟨G,h2⟩⟩
open Classical in
noncomputable def DF (ps:List bp) (n:Int) (t:bp):Nat:=
 if t.k<0\/4<t.k then 14
 else if (t.k≠3/\(t.m=true\/t.r≠0\/t.e≠0))\/(t.k≠4/\0<t.ar.length) then 2
 else if t.k=3/\(t.r<0\/n<=t.r) then 3
 else if ¬∀f∈mD t,0<=f/\f<ps.length then 3
 else if t.k=4/\(t.ar.length=0\/65535<t.ar.length) then 15
 else if 32<=mi (fe ps) t then 19
 else 0
theorem Vo {ps:List bp}{n:Int}{t:bp}:qW ps n t=if DF ps n t=0 then (if t∈ps then 21 else 0) else DF ps n t:=by
 unfold qW DF;by_cases u:t.k<0\/4<t.k
 ·rw[aD u,aD u];simp
 rw[aC u,aC u];by_cases q:(t.k≠3/\(t.m=true\/t.r≠0\/t.e≠0))\/(t.k≠4/\0<t.ar.length)
 ·rw[aD q,aD q];simp
 rw[aC q,aC q];by_cases v:t.k=3/\(t.r<0\/n<=t.r)
 ·rw[aD v,aD ⟨v.1,by omega⟩];simp
 rw[aC v];have s:32<mi (fe ps) t+1↔32<=mi (fe ps) t:=by omega
 have w:(if t.k=4/\(t.ar.length=0\/65535<t.ar.length) then 15 else if 32<mi (fe ps) t+1 then 19 else if t∈ps then 21 else 0)=
   if (if t.k=4/\(t.ar.length=0\/65535<t.ar.length) then 15 else if 32<=mi (fe ps) t then 19 else 0)=0 then (if t∈ps then 21 else 0) else (if t.k=4/\(t.ar.length=0\/65535<t.ar.length) then 15 else if 32<=mi (fe ps) t then 19 else 0):=by
  by_cases o:t.k=4/\(t.ar.length=0\/65535<t.ar.length)
  ·simp only[aD o];simp
  simp only[aC o];by_cases g:32<=mi (fe ps) t
  ·simp only[aD g,aD (s.2 g)];simp
  ·simp only[aC g,aC (λh=>g (s.1 h))];simp
 by_cases j:∀f∈mD t,0<=f/\f<ps.length
 ·rw[aC (show ¬¬_ from λh=>h j)]
  have o:¬(t.k=3/\(t.r<0\/n<=t.r\/t.e<0\/(ps.length:Int)<=t.e)):=by
   rintro⟨a,b⟩;have:=j t.e (by unfold mD;rw[aD a];simp);exact v ⟨a,by omega⟩
  have g:¬∃f∈t.ar,f<0\/(ps.length:Int)<=f:=by
   rintro⟨f,c,y⟩;by_cases p:t.k=3
   ·have:t.ar.length=0:=by have A:¬(t.k≠4/\0<t.ar.length):=λx=>q (.inr x);omega
    rw[cy this] at c;cases c
   ·have:=j f (by unfold mD;rw[aC p];exact c)
    omega
  rw[aC o,aC g];exact w
 ·rw[aD j]
  by_cases p:t.k=3
  ·have B:¬(0<=t.e/\t.e<ps.length):=λh=>j λf c=>by
    unfold mD at c;rw[aD p,bM] at c;rw[c];exact h
   rw[aD ⟨p,by omega⟩];simp
  ·have o:¬(t.k=3/\(t.r<0\/n<=t.r\/t.e<0\/(ps.length:Int)<=t.e)):=λh=>p h.1
   have g:∃f∈t.ar,f<0\/(ps.length:Int)<=f:=eC λz=>j λf c=>by
    unfold mD at c;rw[aC p] at c;exact eC λy=>z ⟨f,c,by omega⟩
   rw[aC o,aD g];simp
theorem O2 {t:bp}(h:t.k=3->t.ar=[])(h0:∀x∈d,0<=x):mi d t=(mD t).foldl (nG d) 0:=by
 unfold mi mD;by_cases a:t.k=3
 ·rw[aD a,aD a,h a]
  have:=JI h0 (kJ _) t.e.toNat;simp only[List.foldl_nil,rH,nG];omega
 ·rw[aC a,aC a]
theorem YM (ps:List bp)(t:bp)(n:Int)(b:Nat)(H0 H:aA)(b2:CK H0 b n (fe ps) H)(bm:ps.length<=65535)(a9:t.ar.length<=140737488351232):
  aN prog 204 [.ep b 0 2 0 0,.agg (bS t)] H λd H'=>d=i64 (DF ps n t)/\H0.le H'/\(DF ps n t=0->CK H0 b n (fe (ps++[t])) H'):=by
 obtain⟨d0,ob,hb,hg,a2,w,b8⟩:=b2;have a3:(fe ps).length=ps.length:=sE ps;have a5:=py ps t;have J:(t.k=3->t.ar=[])->mi (fe ps) t=(mD t).foldl (nG (fe ps)) 0:=λh=>O2 h λx hx=>by have:=ya ps x hx;omega
 obtain⟨c,hc⟩:=oX (DF ps n t);have a:=hc;unfold DF at a;rw[<-hc];have ak:(mD t).length<=140737488351232:=by unfold mD;split <;> first|exact a9|simp
 obtain⟨pa,r⟩:=oX (mD t);rw[<-r] at a J ak;obtain⟨P,a4⟩:=oX (fe ps);rw[<-a4] at hg a3 a5 J a;obtain⟨L,ae⟩:=oX (mi P t);rw[<-ae] at a5 J a;obtain⟨g,W,ur,F,j⟩:=t;simp only[bS] at a J a9 ⊢;unfold mD at r;simp only at r;have m:=lm iD j;refine dO func204 ntmps204 results204 λw0 g0 Q p=>?_;refine t0 ?_;intro U Y O C;intro c3 b1;refine Y _ ?_;refine cm 3 b1 ?_;(iterate 5 (refine tk trivial ?_;intro U Y O C));refine rl (λs1=>s1.df=[]/\s1.fr 0=.ep b 0 2 0 0/\s1.fr 3=.rp [i64 g,.val (.bool W),i64 ur,i64 F,.seq 1 (j.map iD)]/\s1.fr 5=.seq 1 (pa.map iD)/\s1.H=H/\¬(g<0\/4<g)/\¬((g≠3/\(W=true\/ur≠0\/F≠0))\/(g≠4/\0<j.length))/\¬(g=3/\(ur<0\/n<=ur))) ?_ ?_
 ·by_cases I:g=0\/g=1\/g=2
  ·have y:¬g=3:=by omega
   have A:¬g=4:=by omega
   rw[aC y] at r;have G:=r.symm;subst G;rw[aC (show ¬(g<0\/4<g) by omega)] at a;by_cases h5:W=true
   ·rw[aD (.inl ⟨y,.inl h5⟩)] at a
    subst h5;rcases I with rfl|rfl|rfl <;> (refine t0 ?_;intro U Y O C;refine⟨by simp,?_⟩;refine rt p trivial ?_;exact⟨_,aF _,by rw[a] <;> rfl,w,λh=>by rw[a] at h;cases h⟩)
   have a1:W=false:=by simpa using h5
   subst a1;by_cases B:ur=0
   case neg=>
    have o:(ur=0)=False:=aI B;rw[aD (.inl ⟨y,.inr (.inl B)⟩)] at a;rcases I with rfl|rfl|rfl <;> (refine tq o ?_;intro U Y O C;refine⟨by simp,?_⟩;refine rt p trivial ?_;exact⟨_,aF _,by rw[a] <;> rfl,w,λh=>by rw[a] at h;cases h⟩)
   have o:(ur=0)=True:=aG B;by_cases s:F=0
   case neg=>
    have u:(F=0)=False:=aI s;rw[aD (.inl ⟨y,.inr (.inr s)⟩)] at a;rcases I with rfl|rfl|rfl <;> (refine tq (av o u) ?_;intro U Y O C;refine⟨by simp,?_⟩;refine rt p trivial ?_;exact⟨_,aF _,by rw[a] <;> rfl,w,λh=>by rw[a] at h;cases h⟩)
   have u:(F=0)=True:=aG s;by_cases K:0<j.length
   ·have V:=nT ((0:Int)<(j.length:Int))
    rw[aD (.inr ⟨A,K⟩)] at a;rcases I with rfl|rfl|rfl <;> (refine tq (cA o u V m) ?_;intro U Y O C;refine⟨by simp,?_⟩;refine rt p trivial ?_;exact⟨_,aF _,by rw[a] <;> rfl,w,λh=>by rw[a] at h;cases h⟩)
   ·have V:=nF ((0:Int)<(j.length:Int))
    have T:¬((g≠3/\(false=true\/ur≠0\/F≠0))\/(g≠4/\0<j.length)):=by rintro(⟨_,h|h|h⟩|⟨_,h⟩) <;> first|exact h B|exact h s|exact K h|cases h
    have be:¬(g=3/\(ur<0\/n<=ur)):=λh=>y h.1;rcases I with rfl|rfl|rfl <;> (refine tq (cA o u V m) ?_;intro U Y O C;exact⟨rfl,rfl,rfl,rfl,rfl,by decide,T,be⟩)
  by_cases y:g=3
  ·subst y
   rw[aD rfl] at r;have G:=r.symm;subst G;rw[aC (by decide)] at a;by_cases K:0<j.length
   ·have V:=nT ((0:Int)<(j.length:Int))
    rw[aD (.inr ⟨by decide,K⟩)] at a;refine tq (av V m) ?_;intro U Y O C;refine⟨by simp,?_⟩;refine rt p trivial ?_;exact⟨_,aF _,by rw[a] <;> rfl,w,λh=>by rw[a] at h;cases h⟩
   have V:=nF ((0:Int)<(j.length:Int));have T:¬(((3:Int)≠3/\(W=true\/ur≠0\/F≠0))\/((3:Int)≠4/\0<j.length)):=by rintro(⟨h,_⟩|⟨_,h⟩) <;> first|exact h rfl|exact K h
   rw[aC T] at a;by_cases h9:ur<0
   ·have M:(ur<0)=True:=aG h9
    rw[aD ⟨rfl,.inl h9⟩] at a;refine tq (av V m) ?_;intro U Y O C;refine dE (λ_ _ _ _=>False) λU Y=>?_;refine dst (av M hb) ?_;intro U Y O C;refine t0 ?_;intro U Y O C;refine⟨by simp,?_⟩;refine rt p trivial ?_;exact⟨_,aF _,by rw[a] <;> rfl,w,λh=>by rw[a] at h;cases h⟩
   have M:(ur<0)=False:=aI h9;by_cases a0:n<=ur
   ·have a6:(n<=ur)=True:=aG a0
    rw[aD ⟨rfl,.inr a0⟩] at a;refine tq (av V m) ?_;intro U Y O C;refine dE (λ_ _ _ _=>False) λU Y=>?_;refine dst (bQ M a6 hb) ?_;intro U Y O C;refine t0 ?_;intro U Y O C;refine⟨by simp,?_⟩;refine rt p trivial ?_;exact⟨_,aF _,by rw[a] <;> rfl,w,λh=>by rw[a] at h;cases h⟩
   have a6:(n<=ur)=False:=aI a0;refine tq (av V m) ?_;intro U Y O C;refine dE (λ_ _ _ _=>False) λU Y=>?_;refine dst (bQ M a6 hb) ?_;intro U Y O C;refine tz ?_;exact⟨rfl,rfl,rfl,rfl,rfl,by decide,T,by omega⟩
  rw[aC y] at r;have G:=r.symm;subst G;by_cases A:g=4
  ·subst A
   rw[aC (by decide)] at a;by_cases h5:W=true
   ·rw[aD (.inl ⟨y,.inl h5⟩)] at a
    subst h5;refine t0 ?_;intro U Y O C;refine⟨by simp,?_⟩;refine rt p trivial ?_;exact⟨_,aF _,by rw[a] <;> rfl,w,λh=>by rw[a] at h;cases h⟩
   have a1:W=false:=by simpa using h5
   subst a1;by_cases B:ur=0
   case neg=>
    have o:(ur=0)=False:=aI B;rw[aD (.inl ⟨y,.inr (.inl B)⟩)] at a;refine tq o ?_;intro U Y O C;refine⟨by simp,?_⟩;refine rt p trivial ?_;exact⟨_,aF _,by rw[a] <;> rfl,w,λh=>by rw[a] at h;cases h⟩
   have o:(ur=0)=True:=aG B;by_cases s:F=0
   case neg=>
    have u:(F=0)=False:=aI s;rw[aD (.inl ⟨y,.inr (.inr s)⟩)] at a;refine tq (av o u) ?_;intro U Y O C;refine⟨by simp,?_⟩;refine rt p trivial ?_;exact⟨_,aF _,by rw[a] <;> rfl,w,λh=>by rw[a] at h;cases h⟩
   have u:(F=0)=True:=aG s;refine tn (av o u) ?_;exact⟨rfl,rfl,rfl,rfl,rfl,by decide,(by rintro(⟨_,h|h|h⟩|⟨h,_⟩) <;> first|exact h B|exact h s|exact h rfl|cases h),λh=>y h.1⟩
  ·have q0:=nF (g=0)
   have q1:=nF (g=1);have q2:=nF (g=2);have q3:=nF (g=3);have E:=nF (g=4);rw[aD (show g<0\/4<g by omega)] at a;refine tq (cw q0 q1 q2 q3 E) ?_;intro U Y O C;refine⟨by simp,?_⟩;refine rt p trivial ?_;exact⟨_,aF _,by rw[a] <;> rfl,w,λh=>by rw[a] at h;cases h⟩
 rintro s1 ⟨q,g0,X,g5,R,b9,ag,ba⟩;rw[aC b9,aC ag,aC ba] at a;have v:H0.le s1.H:=by rw[R];exact w
 obtain⟨H1,bf⟩:=oX s1.H;refine tq (av g0 g5) ?_;intro U Y O C;refine(Rl n P pa b ob d0 H0 s1.H (by rw[R];exact hb) (by rw[R];exact hg) ak (by omega)).mono ?_;rintro d _ ⟨rfl,rfl⟩;by_cases N:∀f∈pa,0<=f/\f<P.length
 case neg=>
  rw[aC N];rw[aD (by rw[<-a3];exact N)] at a;refine ur p trivial q ?_;exact⟨_,aF _,by rw[a] <;> rfl,v,λh=>by rw[a] at h;cases h⟩
 rw[aD N];rw[aC (show ¬¬_ from λh=>h (by rw[<-a3];exact N))] at a;have aw:List.foldl (nG P) 0 pa=L:=(J λy=>by
  have K:¬(g≠4/\0<j.length):=λh=>ag (.inr h);exact cy (by omega)).symm
 rw[aw];have ad:=ya ps;have b6:=yi (d:=P) (b:=ps.length) (λx hx=>(ad x (a4▸hx)).2) (by omega) ⟨g,W,ur,F,j⟩;have b7:=yh (d:=P) (λx hx=>by have:=ad x (a4▸hx);omega) ⟨g,W,ur,F,j⟩;rw[<-ae] at b6 b7;have w5:IntKind.i64.wrap (L+1)=L+1:=aP (by omega);(iterate 2 (refine tk trivial ?_;intro U Y O C));refine rl (λZ=>Z.df=[]/\Z.fr 0=.ep b 0 2 0 0/\Z.fr 6=i64 L/\Z.H=s1.H/\¬(g=4/\(j.length=0\/65535<j.length))/\¬32<=L) ?_ ?_
 ·by_cases s:32<=L
  ·have M:(32<=L)=True:=aG s
   by_cases A:g=4
   ·have E:(g=4)=True:=aG A
    by_cases B:j.length=0
    ·have o:=nT ((j.length:Int)=0)
     rw[aD ⟨A,.inl B⟩] at a;refine tq (cA X E o m) ?_;intro U Y O C;refine⟨by simp,?_⟩;refine rt p q ?_;exact⟨_,aF _,by rw[a] <;> rfl,v,λh=>by rw[a] at h;cases h⟩
    have o:=nF ((j.length:Int)=0);by_cases K:65535<j.length
    ·have u:=nT ((65535:Int)<(j.length:Int))
     rw[aD ⟨A,.inr K⟩] at a;refine tq (cw X E o u m) ?_;intro U Y O C;refine⟨by simp,?_⟩;refine rt p q ?_;exact⟨_,aF _,by rw[a] <;> rfl,v,λh=>by rw[a] at h;cases h⟩
    have u:=nF ((65535:Int)<(j.length:Int));rw[aC (show ¬(g=4/\(j.length=0\/65535<j.length)) by omega),aD s] at a;refine tq (eP X E o u M m) ?_;intro U Y O C;refine⟨by simp,?_⟩;refine rt p q ?_;exact⟨_,aF _,by rw[a] <;> rfl,v,λh=>by rw[a] at h;cases h⟩
   ·have E:(g=4)=False:=aI A
    rw[aC (show ¬(g=4/\(j.length=0\/65535<j.length)) by omega),aD s] at a;refine tq (cA X E M m) ?_;intro U Y O C;refine⟨by simp,?_⟩;refine rt p q ?_;exact⟨_,aF _,by rw[a] <;> rfl,v,λh=>by rw[a] at h;cases h⟩
  ·have M:(32<=L)=False:=aI s
   by_cases A:g=4
   ·have E:(g=4)=True:=aG A
    by_cases B:j.length=0
    ·have o:=nT ((j.length:Int)=0)
     rw[aD ⟨A,.inl B⟩] at a;refine tq (cA X E o m) ?_;intro U Y O C;refine⟨by simp,?_⟩;refine rt p q ?_;exact⟨_,aF _,by rw[a] <;> rfl,v,λh=>by rw[a] at h;cases h⟩
    have o:=nF ((j.length:Int)=0);by_cases K:65535<j.length
    ·have u:=nT ((65535:Int)<(j.length:Int))
     rw[aD ⟨A,.inr K⟩] at a;refine tq (cw X E o u m) ?_;intro U Y O C;refine⟨by simp,?_⟩;refine rt p q ?_;exact⟨_,aF _,by rw[a] <;> rfl,v,λh=>by rw[a] at h;cases h⟩
    have u:=nF ((65535:Int)<(j.length:Int));refine tn (eP X E o u M m) ?_;exact⟨q,g0,rfl,rfl,by omega,s⟩
   ·have E:(g=4)=False:=aI A
    refine tn (cA X E M m) ?_;exact⟨q,g0,rfl,rfl,by omega,s⟩
 rintro Z ⟨ap,k0,k6,S,bb,bc⟩;rw[aC bb,aC bc] at a;rw[R] at S;have aa:Z.H b=some (.row 299 0 2 [[i64 n,d0]]):=by rw[S];exact hb
 have b5:Gl H0 3 1 (P.map iD) d0 Z.H ob:=by rw[S];exact hg
 have am:H0.le Z.H:=by rw[S];exact w
 have b4:=lm iD P;have b3:D.cells d0=some [d0]:=hg.cells;refine tq (cw k0 k6 w5 aa b3) ?_;intro U Y O C;refine ax (e:=3) fk rfl fk rfl yv rfl (by decide) (am) (b5) (new:=[iD (L+1)]) (by exact⟨rfl,rfl⟩) (by rw[b4];show(_+1) * _<=_;omega) λd3 H3 al MU a7 hp=>?_;obtain⟨b0,a8⟩:=hp b _ aa b8;have ac:Gl H0 3 1 ((P++[L+1]).map iD) d3 H3 al:=by rw[bI];exact MU
 obtain⟨c4,o4,ab,bl,bi⟩:=Gl.os ac (by simp);have bk:=ab;subst ab;refine eV (av k0 b0) ?_;refine nx ?_;refine ur p trivial ap ?_;refine⟨_,aF _,by rw[a] <;> rfl,λx z hz=>?_,λ_=>⟨_,al,aK _ _ _,?_,a2,λx z hz=>?_,a8⟩⟩
 ·have e:x≠b:=λe=>by rw[e,a2] at hz;cases hz
  show(H3.aU b _) x=_;rw[aJ e];exact a7 _ _ hz
 ·rw[a5]
  exact ac.cM λx hx=>aJ λe=>a8 (by rw[hx,e])
 ·have e:x≠b:=λe=>by rw[e,a2] at hz;cases hz
  show(H3.aU b _) x=_;rw[aJ e];exact a7 _ _ hz
theorem CK.start (n:Int)(h:H0 b=none):CK H0 b n (fe []) (H0.aU b (.row 299 0 2 [[i64 n,.val (.slice none 0 0)]])):=
 ⟨_,none,aK _ _ _,eB _ _ _ _,h,λx z a=>by rw[aJ (λe=>by rw[e,h] at a;cases a)];exact a,by simp⟩
theorem CK.le {n:Int}{ds:List Int}(h:CK H0 b n ds H):H0.le H:=by obtain⟨_,_,_,_,_,h,_⟩:=h;exact h
theorem R8 (ts:List bp)(n:Int)(H:aA)(a3:ts.length<=140737488351232)(R:∀u∈ts,u.ar.length<=140737488351232):
  aN W 139 [.seq 5 (ts.map bS),i64 n] H λd H'=>d=i64 (rT ts n)/\H=H':=by
 refine aq (K:=λd=>d=i64 (rT ts n)) ?_;have aM:=aF H;have c:=lm bS ts;have f:rT ts n=if 65535<ts.length then 15 else pU n [] ts:=rfl
 refine dO func139 ntmps139 results139 λw0 g0 Q X=>?_;by_cases h1:65535<ts.length
 ·have q1:=nT ((65535:Int)<(ts.length:Int))
  rw[aD h1] at f;refine ur X (av c q1) trivial ?_;exact⟨_,aF _,aM,_,aL aM,by rw[f] <;> rfl⟩
 have q1:=nF ((65535:Int)<(ts.length:Int));rw[aC h1] at f;refine tq (av c q1) ?_;intro U Y O C;intro b hb;refine Y _ ?_;refine tn c ?_;refine aO ts.length (λi s=>s.df=[]/\s.fr 0=.seq 5 (ts.map bS)/\s.fr 5=.ep b 0 2 0 0/\s.fr 17=.seq 5 (ts.map bS)/\s.fr 18=i64 ts.length/\s.fr 19=i64 i/\CK H b n (fe (ts.take i)) s.H/\pU n [] (ts.take i)=0) ⟨rfl,rfl,rfl,rfl,rfl,rfl,CK.start n hb,rfl⟩ ?_;rintro i s hi ⟨q,f0,f5,P,x,y,S,dC⟩;have I:H.le s.H:=S.le;by_cases g:i<ts.length
 case neg=>
  have q2:=lF i ts.length;rw[bK (by omega)] at dC;refine ur X (bQ x y q2) q ?_;exact⟨_,aF _,I,_,aL I,by rw[f,dC] <;> rfl⟩
 have q2:=lT i ts.length;have hx:=aX i;have z:=aZ i;have w3:=wS i;have k:=wu (t:=ts[i]) dC;rw[<-bw g,cz] at k;have e:qW (ts.take i) n ts[i]≠0->pU n [] ts=qW (ts.take i) n ts[i]:=λh=>by
  have e:=zn (us:=ts.drop (i+1)) (by rw[k];exact h);rw[ga] at e;rw[e,k]
 have m:=Vo (ps:=ts.take i) (n:=n) (t:=ts[i]);have B:(ts.map bS)[i]?=some (bS ts[i]):=by rw[bg,az g];rfl
 have V:=R ts[i] (ao g);have T:ts.take (i+1)=ts.take i++[ts[i]]:=bw g;obtain⟨u,hu⟩:=oX ts[i];rw[<-hu] at B V k e m T;have a2:(ts.take i).length=i:=by rw[bX];omega
 have M:=λH' (h:CK H b n (fe (ts.take i)) H')=>YM (ts.take i) u n b H H' h (by omega) V;have N:=λw=>WN (ts.take i) u w (by omega) (λv hv=>R v (rC hv));obtain⟨F,G,ur,E,D⟩:=u;simp only[bS] at B M N;refine tq (bG P x y c q2 B hx (av z g)) ?_;intro U Y O C;intro c7 a0;refine Y _ ?_;refine cm 7 a0 ?_;refine tq f5 ?_;intro U Y O C;refine(M s.H S).mono ?_;rintro d H1 ⟨rfl,o,p⟩;by_cases j:DF (ts.take i) n ⟨F,G,ur,E,D⟩=0
 case neg=>
  have q3:=nF ((DF (ts.take i) n ⟨F,G,ur,E,D⟩:Int)=0);rw[aC j] at m;have:=e (by rw[m];exact j);refine ur X q3 q ?_;exact⟨_,aF _,o,_,aL o,by rw[f,this,m] <;> rfl⟩
 rw[j];rw[aD j] at m;have p:=p j;rw[<-T] at p;refine t0 ?_;intro U Y O C;have a:cP W 205 [.seq 5 ((ts.take i).map bS),.agg [i64 F,.val (.bool G),i64 ur,i64 E,.seq 1 (D.map iD)]] H1 λd A=>A=aA.none/\d=.eO [i64 (max (oQ ⟨F,G,ur,E,D⟩ (ts.take i) 0) 0),.val (.bool (decide ((⟨F,G,ur,E,D⟩:bp)∈ts.take i)))]:=an λw a1=>N w;obtain⟨r,hr⟩:=oX (max (oQ ⟨F,G,ur,E,D⟩ (ts.take i) 0) 0);rw[<-hr] at a;rw[iK] at a;have J:i<=ts.length:=by omega
 have L:=nT ((i:Int)<=(ts.length:Int));simp only[i64] at a;by_cases Z:(⟨F,G,ur,E,D⟩:bp)∈ts.take i
 ·rw[ah Z] at a
  rw[aD Z] at m;have:=e (by rw[m];decide);refine dE (λ_ _ d A=>A=.none/\d=.eO [.val (.int .i64 r),.val (.bool true)]) λU Y=>?_;refine dst (eP f0 c hx z J L) ?_;intro U Y O C;refine⟨a,?_⟩;refine nx ?_;refine dst trivial ?_;intro U Y O C;refine ur X trivial q ?_;exact⟨_,aF _,o,_,aL o,by rw[f,this,m] <;> rfl⟩
 ·rw[af Z] at a
  rw[aC Z] at m;refine dE (λ_ _ d A=>A=.none/\d=.eO [.val (.int .i64 r),.val (.bool false)]) λU Y=>?_;refine dst (eP f0 c hx z J L) ?_;intro U Y O C;refine⟨a,?_⟩;refine nx ?_;refine dst trivial ?_;intro U Y O C;refine tn (av y w3) ?_;exact⟨g,q,f0,f5,P,x,rfl,p,k.trans m⟩
structure Sb (b:bn):Prop where
 ok:xM b
 nm:cH b.nm.size
 rs:∀s∈b.rg,cH s.size
 ls:∀x∈b.lc,cH x.nm.size
 ts:∀x∈b.bl,cH x.tm.nm.size
theorem Ui (n r t l:Int):wy [n,r,t,l]=if n≠0 then n else if r≠0 then r else if t≠0 then t else if l≠0 then l else 0:=rfl
theorem aCe (I:Bool)(n:Int)(r t:Nat)(l c:Int):(if I=false then 12 else if n≠0 then n else if r≠0 then (r:Int) else if t≠0 then (t:Int) else if l≠0 then l else c)=if I=false then 12 else if wy [n,r,t,l]≠0 then wy [n,r,t,l] else c:=by
 rw[Ui];have h:((r:Int)≠0)↔r≠0:=by omega
 have j:((t:Int)≠0)↔t≠0:=by omega
 simp only[h,j];cases I
 ·rfl
 ·by_cases a:n=0
  ·by_cases e:r=0
   ·by_cases f:t=0
    ·by_cases g:l=0
     ·simp [a,e,f,g]
     ·simp [a,e,f,g]
    ·simp [a,e,f]
   ·simp [a,e]
  ·simp [a]
theorem WE (b:bn)(H:aA)(sb:Sb b):aN prog 64 [.agg (cu b)] H λd H'=>d=i64 (nC b)/\H=H':=by
 refine aq (K:=λd=>d=i64 (nC b)) ?_;have o:=aF H;obtain⟨W,X,⟨Z,o4⟩,o5,o6,o7⟩:=sb.ok;have s:=xG b.nm H sb.nm;have J:∀c,cP prog 137 [.seq 1 (b.rg.map sD)] c λd A=>A=aA.none/\d=i64 (kP b.rg):=λc=>an λa g=>Sy b.rg a W sb.rs;have L:∀c,cP prog 138 [.seq 2 (b.ol.map pD),i64 b.rg.length] c λd A=>A=aA.none/\d=i64 (fc b.ol b.rg.length):=λc=>an λa g=>GH b.ol _ a X;have M:∀c,cP prog 139 [.seq 5 (b.ty.map bS),i64 b.rg.length] c λd A=>A=aA.none/\d=i64 (rT b.ty b.rg.length):=λc=>an λa g=>R8 b.ty _ a Z o4;have x:∀c,cP prog 140 [.agg (cu b)] c λd A=>A=aA.none/\d=i64 (th b):=λc=>an λa g=>Oi b a o5 sb.ls;have N:∀l c,cH l.length->cP prog 136 [.seq 1 (l.map iD)] c λd A=>A=aA.none/\d=i64 (wy l):=λl c v=>an λa g=>JB l a v;have E:=lm sD b.rg;have k:=lm dM b.bl;unfold cH at o6;obtain⟨y,j⟩:=oX (nC b);rw[<-j];unfold nC at j;obtain⟨I,P⟩:=oX (eY b.nm);obtain⟨n,S⟩:=oX (kP b.rg);obtain⟨r,T⟩:=oX (fc b.ol b.rg.length);obtain⟨t,V⟩:=oX (rT b.ty b.rg.length);obtain⟨l,v⟩:=oX (th b);rw[<-P] at j s;rw[<-S] at j J;rw[<-T] at j L;rw[<-V] at j M;rw[<-v] at j x;clear P S T V v;have z:=λc=>N [n,r,t,l] c (by unfold cH;simp);have R:=Ui n r t l;obtain⟨F,B⟩:=oX (wy [n,r,t,l]);simp only[<-B] at z R;simp only[cC,fw,iD] at z;have f:y=if I=false then 12 else if F≠0 then F else if b.bl.length=0\/65535<b.bl.length then 15 else 0:=by rw[j,B];exact aCe I n r t l _
 clear j R B N;rw[jB] at x ⊢;refine dO func64 ntmps64 results64 λw0 g0 Q m=>?_;refine t0 ?_;intro U Y O C;intro c1 D;refine Y _ ?_;refine cm 1 D ?_;refine t0 ?_;intro U Y O C;refine s.q ?_;cases I
 ·have e:y=12:=f
  exact oz m trivial o e
 rw[aC (λh=>by cases h)] at f;refine tq E ?_;intro U Y O C;refine dE (λt0 _ d A=>A=.none/\d=(if t0=some 14 then i64 n else if t0=some 18 then i64 r else if t0=some 22 then i64 t else if t0=some 24 then i64 l else i64 F)) λU Y=>?_;refine dst trivial ?_;intro U Y O C;refine⟨J _,L _,M _,x _,z _,?_⟩;refine nx ?_;by_cases q:F=0
 case neg=>
  have u:(F=0)=False:=aI q;have e:y=F:=f.trans (aD q);exact oz m u o e
 have u:(F=0)=True:=aG q;rw[aC (λh=>h q)] at f;by_cases p:b.bl.length=0
 ·have w:=nT ((b.bl.length:Int)=0)
  have e:y=15:=f.trans (aD (.inl p));exact oz m (bQ u w k) o e
 have w:=nF ((b.bl.length:Int)=0);by_cases p2:65535<b.bl.length
 ·have G:=nT ((65535:Int)<(b.bl.length:Int))
  have e:y=15:=f.trans (aD (.inr p2));exact oz m (cA u w G k) o e
 have G:=nF ((65535:Int)<(b.bl.length:Int));have e:y=0:=f.trans (aC (by omega));exact oz m (cA u w G k) o e
end Go.Proofs.YtffgfafbffdgaaaGreatDoor
