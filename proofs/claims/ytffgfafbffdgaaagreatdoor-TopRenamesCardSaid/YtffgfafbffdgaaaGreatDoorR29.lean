/- Lemmas and contracts of functions, several texts in one. -/
import Derived.Test.YtffgfafbffdgaaaGreatDoorR28
set_option maxRecDepth 100000
set_option maxHeartbeats 4000000
set_option linter.all false
namespace Go.Proofs.YtffgfafbffdgaaaGreatDoor
open Go.RowKit
open Tryz
variable {K l:List (Int×Int)}{L S o:List Int}{n p a r:Int}{H Hs:aA}{j c2 c6:Nat}{x0 x1 x4 dk dv:D}{ok ov:Option Nat}
theorem aCc:Qq 185:=⟨jH func185 rfl rfl,Vu⟩
def ScL (b:List pT) (E K L:List (Int×Int)) (y:Int×Int):Prop:=∃l,0<=y.1/\b[y.1.toNat]?=some l/\KV (Gg E K L y.1 l.rg) l.pt y.2
structure Xi (LN:List pT) (E K L:List (Int×Int)) (n i:Nat) (S:List (Int×Int)):Prop where
 nd:S.Nodup
 mem:∀y,y∈S↔y.1<i/\ScL LN E K L y
 len:S.length<=i * n
theorem Xi.step {LN:List pT}{E L:List (Int×Int)}{n i:Nat}{S B:List (Int×Int)}{dn:List Int}(h:Xi LN E K L n i S)(hi:i<LN.length)(hB:M5 (Gg E K L i LN[i].rg) LN[i].pt B [])(hl:B.length<=n)(hp:dn.Perm (nO B)):Xi LN E K L n (i+1) (S++dn.map λq=>((i:Int),q)) where
 nd:=mW.2 ⟨h.nd,by
  refine List.Pairwise.map _ (λa b hab e=>hab ?_) (hp.nodup_iff.2 hB.b.nd);injection e,λx hx y hy e=>by
  obtain⟨q,_,rfl⟩:=cD.1 hy;have:=((h.mem x).1 hx).1;rw[e] at this;simp only at this;omega⟩
 mem:=λy=>by
  rw[bB,h.mem y];constructor
  ·rintro(⟨h1,h2⟩|h1)
   ·exact⟨by omega,h2⟩
   ·obtain⟨q,hq,rfl⟩:=cD.1 h1
    refine⟨by simp only;omega,LN[i],by simp,by simp only[aX];exact az hi,?_⟩;exact hB.fin.1 (hp.mem_iff.1 hq)
  ·rintro⟨h1,h2⟩
   by_cases e:y.1=i
   ·obtain⟨l,h3,h4,h5⟩:=id h2
    rw[e,aX,az hi] at h4;injection h4 with h4
    subst h4;rw[e] at h5;exact .inr (cD.2 ⟨y.2,hp.mem_iff.2 (hB.fin.2 h5),mc e.symm rfl⟩)
   ·exact .inl ⟨by omega,h2⟩
 len:=by
  have h1:=h.len;have h2:=hp.length_eq;unfold nO at h2;rw[aS] at h2;rw[aV,aS,kH];omega
theorem W8 (f:List pT)(E K V L:List (Int×Int))(n:Nat)(H:aA)(hn:n<=300)(bf:f.length<=10000)(hK:cH K.length)(hV:cH V.length)(hL:cH L.length)(hE:E.length<=1000000)(b0:∀y∈K,du y.1/\du y.2)(c3:∀y∈V,du y.1/\du y.2)(b5:∀y∈L,du y.1/\du y.2)(eR:∀y∈E,bN n y.1/\bN n y.2)(rR:∀l∈f,du l.rg/\bN n l.pt):
  aN prog 101 [.agg (Uh f E K V L)] H λd H'=>∃S ob,Xi f E K L n f.length S/\Gl H 60 2 ((en S).map pD) d H' ob/\H.le H':=by
 have bb:∀y∈E,du y.1/\du y.2:=λy hy=>by have:=eR y hy;unfold bN at this;unfold du;omega
 have am:=λg=>Uq f E K V L g hK hV hL hE b0 c3 b5 bb;have w:=λb1 b2 b3 b4 m1 i hi g rV u=>Tv f E K V L b1 b2 b3 b4 m1 i n hi g rV hn hE b0 b5 eR (by unfold du;omega) (rR _ (ao hi)).1 (rR _ (ao hi)).2 u;have br:=lm pF f;unfold Uh at am ⊢;refine dO func101 ntmps101 results101 λw0 g0 Q aB=>?_;refine t0 ?_;intro U Y O C;intro c1 bl;refine Y _ ?_;refine cm 1 bl ?_;refine t0 ?_;intro U Y O C;refine(am _).mono ?_;rintro d g ⟨b1,b2,b3,b4,m1,rfl,a9,rV,u⟩;have w:=λi hi g u=>w b1 b2 b3 b4 m1 i hi g rV u;obtain⟨X,hX⟩:=oX (JP f E K V L b1 b2 b3 b4);rw[<-hX] at w ⊢;have c5:D.cells X=some [X]:=by rw[hX];rfl
 refine tn br ?_;refine aO f.length (λi s=>s.df=[]/\s.fr 4=X/\s.fr 11=i64 f.length/\s.fr 12=i64 i/\g.le s.H/\∃S ob,Xi f E K L n i S/\Gl g 60 2 (S.map pD) (s.fr 3) s.H ob) ⟨rfl,rfl,rfl,rfl,aF _,[],none,⟨List.nodup_nil,λy=>by simp [ScL];omega,by simp⟩,eB _ _ _ _⟩ ?_;rintro i s hi ⟨v,f4,m,t,A,S,ob,hS,Z⟩;have hx:=aX i;have c4:=aZ i;by_cases a4:i<f.length
 case neg=>
  have q1:=lF i f.length;have bq:i=f.length:=by omega
  subst bq;have bk:=hS.len;have b7:f.length * n<=10000 * 300:=kD bf hn;have aa:H.le s.H:=iL a9 A;rcases Z with⟨_,M,e2⟩|⟨c,o,e0,M,e2,e3⟩
  ·have bt:S=[]:=by simpa using e2
   subst bt;refine tq (cA m t q1 M) ?_;intro U Y O C;refine(Cg _).q ?_;refine ur aB M (av v M) ?_;exact⟨_,aF _,[],none,hS,.inl ⟨rfl,rfl,by simp [en]⟩,aa⟩
  ·rw[aS] at M
   refine tq (cA m t q1 M) ?_;intro U Y O C;refine(Ch aCc e3 (by omega)).mono ?_;rintro d _ ⟨rfl,rfl⟩;refine ur aB M (av v M) ?_;have ae:=gA a9 e2;exact⟨_,aF _,S,some c,hS,.inr ⟨c,o,rfl,by rw[aS,jV],ae,aK _ _ _⟩,aQ aa ae⟩
 have q1:=lT i f.length;have w3:=wS i;have ac:U3 E K V L b1 b2 b3 b4 m1 s.H:=⟨A _ _ u.m1,A _ _ u.m2,A _ _ u.m3,A _ _ u.m4⟩;have w:=w i a4 s.H ac;refine tq (cA f4 m t q1) ?_;intro U Y O C;refine w.mono ?_;rintro d H2 ⟨bm,B,rfl,a3,a1,G,al⟩;refine t0 ?_;intro U Y O C;refine zX (U5 B) rfl (show(18:Nat)<33 by decide) underlying271 rfl al ?_;intro r H3 J c8 hR I;replace J:H2 r=none:=J;replace I:∀c,c≠bm->c≠r->H3 c=H2 c:=I;have b8:g bm=none:=gA A a3;have ar:g r=none:=gA (iL A G) J;have ab:g.le H3:=λb x hb=>by
  rw[I b (λe=>by rw[e,b8] at hb;cases hb) (λe=>by rw[e,ar] at hb;cases hb)];exact G _ _ (A _ _ hb)
 have bc:B.length<=n:=a1.b.len λe he=>(eR e he).2;have ba:∀q∈nO B,bN n q:=λq hq=>by obtain⟨p,hp⟩:=a1.b.in hq;exact(eR _ hp).2
 have MU:Gl g 60 2 (S.map pD) (s.fr 3) H3 ob:=Z.cM λc F=>by
  rcases Z with⟨h,_⟩|⟨c',o,R,h2,h3,N⟩
  ·rw[h] at F;cases F
  ·rw[F] at R;injection R with R;subst R
   rw[I c (λe=>by rw[e,a3] at N;cases N) (λe=>by rw[e] at N;have:=G _ _ N;rw[J] at this;cases this)];exact(G _ _ N).trans N.symm
 refine Y _ ?_;refine t0 ?_;intro U Y O C;refine jz (λk s=>∃(z W:List (Int×Int)) (ob:Option Nat),k=z.length/\s.df=[]/\s.fr 4=X/\s.fr 11=i64 f.length/\s.fr 12=i64 i/\s.fr 5=i64 i/\s.fr 18=.val (.pointer (some ⟨r,0,none⟩))/\B0 s.H bm r (U5 z)/\g.le s.H/\(W++z).Perm B/\Gl g 60 2 ((S++(nO W).map λq=>((i:Int),q)).map pD) (s.fr 3) s.H ob) B.length ⟨B,[],ob,rfl,v,f4,m,t,rfl,rfl,hR,ab,List.Perm.refl _,(by show Gl g _ 2 ((S++(nO []).map _).map pD) (s.fr 3) H3 ob;simpa [nO] using MU)⟩ ?_;clear MU ab hR I J al G a3 w ac Z A t m f4 v;clear s ob;rintro k s ⟨z,W,ob,rfl,v,f4,m,t,f5,P,hR,A,hp,Z⟩;refine tq P ?_;intro U Y O C;refine uw rfl (show(19:Nat)<33 by decide) P hR (λa7=>?_) (λl1 p l2 H7 a7 bi be a5=>?_)
 ·have bs:z=[]:=by
   cases z with
   |nil=>rfl
   |cons a l=>cases a7
  subst bs
  rw[bz] at hp
  refine eV trivial ?_;refine nx ?_
  refine tn (av t w3) ?_
  exact⟨a4,v,f4,m,rfl,A,_,ob,hS.step a4 a1 bc (hp.map _),Z⟩
 ·obtain⟨t1,c9,M,e2,e3⟩:=wH.1 a7
  obtain⟨b,t2,e4,e5,e6⟩:=wL.1 e3;subst M e4 e2 e6 e5;have a6:((W++[b])++(t1++t2)).Perm B:=by
   refine List.Perm.trans ?_ hp;rw[bE];exact zF _ (zQ (l₁:=t1) (l₂:=t2) (a:=b)).symm
  have a2:B0 H7 bm r (U5 (t1++t2)):=by
   have:U5 (t1++t2)=U5 t1++U5 t2:=bI;rw[this];exact bi
  obtain⟨y7,T⟩:=a2.obj;obtain⟨z7,a8⟩:=a2.map;have b9:g.le H7:=λc x F=>by rw[a5 c (λe=>by rw[e,ar] at F;cases F)];exact A _ _ F
  have a0:∀c o,H7 c=some (.obj o)->ob≠some c:=λc o F e=>by
   rcases Z with⟨h,_⟩|⟨c',o',R,h2,h3,N⟩
   ·rw[h] at e;cases e
   ·rw[e] at R;injection R with R;subst R
    by_cases ad:c=r
    ·obtain⟨y,hy⟩:=hR.obj
     rw[ad,hy] at N;cases N
    ·rw[a5 c ad,N] at F;cases F
  have ak:Gl g 60 2 ((S++(nO W).map λq=>((i:Int),q)).map pD) (s.fr 3) H7 ob:=Z.cM λc F=>a5 c λe=>a0 r y7 T (by rw[F,e]);have c7:=ba b.1 (qZ.2 ⟨b.2,a6.mem_iff.1 (by simp)⟩);have bo:=a6.length_eq;have bk:=hS.len;have b7:i * n<=10000 * 300:=kD (by omega) hn;simp only[aV,eE] at bo;refine eV trivial ?_;refine nx ?_;refine t0 ?_;intro U Y O C;refine rj rfl (show(21:Nat)<33 by decide) (by exact P) be ?_;obtain⟨x3,aw⟩:=oX (s.fr 3);rw[<-aw] at ak;refine eV f5 ?_;refine nx ?_;refine tq f5 ?_;intro U Y O C;rw[<-aw];refine ax (e:=60) qm rfl qm rfl Bi rfl (by decide) b9 ak (new:=[pD ((i:Int),b.1)]) (by exact⟨rfl,rfl⟩) (by simp only[aS,aV,nO,eE];omega) λd H6 c0 ag b6 ap=>?_;have k1:=ap _ _ a8 (a0 _ _ a8);have k2:=ap _ _ T (a0 _ _ T);have e:(S++(nO (W++[b])).map λq=>((i:Int),q)).map pD=(S++(nO W).map λq=>((i:Int),q)).map pD++[pD ((i:Int),b.1)]:=by simp [nO]
  rw[<-e] at ag;refine tz ?_;exact⟨_,by show(t1++t2).length<(t1++b::t2).length;rw[aV,aV,bx];omega,t1++t2,W++[b],c0,rfl,v,f4,m,t,f5,P,a2.cM (k1.1.trans a8.symm) (k2.1.trans T.symm),b6,a6,ag⟩
def YD (g:FuncId) (c:List D) (p:Int×Int->Bool) (l:List (Int×Int)) (P:aA->Prop):Prop:=∀y∈l,∀H,P H->aN prog g (.agg [i64 y.1,i64 y.2]::c) H λd b=>d=.val (.bool (p y))/\H=b
theorem W5 {g:FuncId}{w:List D}{p:Int×Int->Bool}{P:aA->Prop}{b o:Nat}{T:TypeId}(hg:YD g w p l P)(V:P H)(hb:H b=some (.row T o 2 (l.map pD)))(hl:l.length<=1000000000):
  aN prog 182 [.os b o 2 0 l.length,.fn g w] H λd H'=>∃r:Int,d=i64 r/\H=H'/\((r= -1/\∀y∈l,p y=false)\/∃(j:Nat) (h:j<l.length),r=j/\p l[j]=true/\∀y∈l.take j,p y=false):=by
 have W:=lm pD l;refine dO func182 ntmps182 results182 λw0 g0 Q G=>?_;refine tz ?_;refine aO l.length (λi s=>s.df=[]/\s.fr 0=.os b o 2 0 l.length/\s.fr 1=.fn g w/\s.fr 7=i64 l.length/\s.fr 8=i64 i/\s.H=H/\∀y∈l.take i,p y=false) ⟨rfl,rfl,rfl,rfl,rfl,rfl,by simp⟩ ?_;rintro i s hi ⟨k,I,J,x,A,t,e⟩;have X:=aX i;have B:=aZ i;by_cases c:i<l.length
 case neg=>
  have F:=lF i l.length;rw[bK (by omega)] at e;refine ur G (bQ x A F) k ?_;exact⟨_,aF _,-1,rfl,t.symm,.inl ⟨rfl,e⟩⟩
 have m:(i:Int)<(l.length:Int):=by omega
 have F:((i:Int)<(l.length:Int))=True:=aG m;have Z:=wS i;have u:=il c;have v:l.take (i+1)=l.take i++[l[i]]:=bw c;have f:=hg l[i] (ao _) H V;obtain⟨y,N⟩:=oX l[i];rw[<-N] at u v f;have E:s.H b=some (.row T o 2 (l.map pD)):=by rw[t];exact hb
 rw[<-t] at f;refine tq (bG I J x A F E u (cA X B c m)) ?_;intro U Y O C;refine f.q ?_;cases M:p y with
 |true=>
  refine ur G trivial k ?_
  exact⟨_,aF _,i,rfl,t.symm,.inr ⟨i,c,rfl,by rw[<-N];exact M,e⟩⟩
 |false=>
  refine tn (av A Z) ?_
  exact⟨c,k,I,J,x,rfl,t,λz R=>by
   rw[v] at R;rcases bB.1 R with h|h
   ·exact e z h
   ·rw[bM.1 h];exact M⟩
def tW (p:Int×Int->Bool) (l:List (Int×Int)):List (Int×Int):=l.filter λy=> !p y
theorem WG {g:FuncId}{bc:List D}{p:Int×Int->Bool}{P:aA->Prop}{b o:Nat}{T:TypeId}(hg:YD g bc p l P)(hP:∀els,P (H.aU b (.row T o 2 els)))(hb:H b=some (.row T o 2 (l.map pD)))(hl:l.length<=1000000000):
  aN prog 100 [.os b o 2 0 l.length,.fn g bc] H λd H'=>d=.os b o 2 0 (tW p l).length/\H'=H.aU b (.row T o 2 ((tW p l).map pD)):=by
 have a3:P H:=by have:=hP (l.map pD);rwa[lX hb] at this
 have a6:=W5 hg a3 hb hl;refine dO func100 ntmps100 results100 λw0 g0 Q aB=>?_;refine t0 ?_;intro U Y O C;refine a6.mono ?_;rintro d _ ⟨r,rfl,rfl,hr⟩;rcases hr with⟨rfl,q⟩|⟨u,a7,rfl,a8,q⟩
 ·have e:tW p l=l:=zI.2 λy R=>by rw[q y R];rfl
  refine u0 aB ?_;exact⟨_,aF _,by rw[e],by rw[e,lX hb]⟩
 have q0:=nF ((u:Int)= -1);have w0:=wS u;refine tq (av q0 w0) ?_;intro U Y O C;have J:tW p (l.take (u+1))=l.take u:=by
  unfold tW;rw[bw a7,ly,zI.2 λy R=>by rw[q y R];rfl];simp [a8]
 refine jz (λk s=>∃(j i:Nat) (L:List (Int×Int)),k=l.length - j/\j<=l.length/\s.df=[]/\s.fr 0=.os b o 2 0 l.length/\s.fr 1=.fn g bc/\s.fr 5=i64 i/\s.fr 6=i64 j/\s.H=H.aU b (.row T o 2 (L.map pD))/\L.length=l.length/\i<j/\i=(tW p (l.take j)).length/\L.take i=tW p (l.take j)/\L.drop j=l.drop j) (l.length - (u+1)) ⟨u+1,u,l,rfl,by omega,rfl,rfl,rfl,rfl,rfl,(lX hb).symm,rfl,by omega,by rw[J,bX];omega,by rw[J],rfl⟩ ?_;rintro k s ⟨j,i,L,rfl,aa,h,x,f1,f5,V,A,I,a9,W,X,hd⟩;have hx:=aX j;have a2:=aZ j;have N:=aX i;have z:=aZ i;have c:s.H b=some (.row T o 2 (L.map pD)):=by rw[A,aK]
 have E:=lm pD L;by_cases m:j<l.length
 case neg=>
  have q1:=lF j l.length;have g1:(i:Int)<=(l.length:Int):=by omega
  have g2:i<=L.length:=by omega
  have e9:l.take j=l:=bK (by omega);rw[e9] at W X;refine ur aB (bG x f5 V q1 g1 g2 c (bQ N z E)) h ?_;exact⟨_,aF _,by rw[W,tP],by rw[<-iK,X,A,iv]⟩
 have v:(j:Int)<(l.length:Int):=by omega
 have q1:((j:Int)<(l.length:Int))=True:=aG v;have w3:=wS j;have w4:=wS i;have t:l.take (j+1)=l.take j++[l[j]]:=bw m;have a5:L[j]?=some l[j]:=by
  have:=ai (·[0]?) hd;simp only[nn,rM,az m] at this;exact this
 have f:(L.map pD)[j]?=some (pD l[j]):=by rw[bg,a5];rfl
 have G:L.drop (j+1)=l.drop (j+1):=by rw[<-pP,hd,pP]
 have F:=hg l[j] (ao _);obtain⟨y,R⟩:=oX l[j];rw[<-R] at f t F;simp only[pD] at f;refine tq (bG x V q1 c f hx a2 (bQ m v E)) ?_;intro U Y O C;intro c7 a4;refine Y _ ?_;refine cm 7 a4 ?_;have a0:=F s.H (by rw[A];exact hP _);refine tq f1 ?_;intro U Y O C;refine a0.mono ?_;rintro d _ ⟨rfl,B⟩;cases hp:p y with
 |true=>
  have w:tW p (l.take (j+1))=tW p (l.take j):=by
   unfold tW;rw[t,ly,tH (by rw[hp];simp)];simp
  refine tn (av V w3) ?_
  exact⟨_,by show l.length - (j+1)<l.length - j;omega,j+1,i,L,rfl,by omega,h,x,f1,f5,rfl,B▸A,I,by omega,by rw[w];exact W,by rw[w];exact X,G⟩
 |false=>
  have w:tW p (l.take (j+1))=tW p (l.take j)++[y]:=by
   unfold tW;rw[t,ly,tG (by rw[hp];simp)];simp
  have M:i<L.length:=by omega
  have Z:(i:Int)<(l.length:Int):=by omega
  have a1:(L.map pD)[i]?=some [i64 L[i].1,i64 L[i].2]:=bZ M
  subst B
  refine tq (bG x f5 V w3 w4 c N (bQ z Z a1)) ?_;intro U Y O C
  have e2:(L.map pD).set i [i64 y.1,i64 y.2]=(L.set i y).map pD:=(List.map_set ..).symm
  refine⟨_,by show l.length - (j+1)<l.length - j;omega,j+1,i+1,L.set i y,rfl,by omega,h,x,f1,rfl,rfl,?_,by rw[mA];exact I,by omega,by rw[w,aV,<-W] <;> rfl,?_,?_⟩
  ·show s.H.aU b _=_
   rw[A,iv,<-e2];rfl
  ·rw[w,<-X,bw (by rw[mA];exact M),List.getElem_set_self,zG (bh _)]
  ·rw[List.drop_set_of_lt (by omega)];exact G
noncomputable def rO (l:List (Int×Int)) (n:Int) (o:List Int) (i:Nat):List Int:=((List.range i).map (λk:Nat=>(k:Int))).filter λx=>o.any (gh l n x)
theorem Ki (l:List (Int×Int))(n:Int)(o:List Int)(i:Nat):(rO l n o i).length<=i:=by
 unfold rO;refine ma (kU _ _) ?_;rw[aS,tL];exact bh _
theorem TQ (t:bp)(H:aA):aN prog 312 [.agg (bS t)] H λd H'=>d=.seq 1 ((mD t).map iD)/\H=H':=by
 refine aq (K:=λd=>d=.seq 1 ((mD t).map iD)) ?_;obtain⟨tk,m,q,k,i⟩:=t;simp only[bS,mD];have c:=aF H;refine dO func312 ntmps312 results312 λs h Q g=>?_;refine t0 ?_;intro U Y O C;intro c2 e;refine Y _ ?_;refine cm 1 e ?_;by_cases b:tk=3
 ·have f:(tk=3)=True:=aG b
  refine ur g f trivial ?_;exact⟨_,aF _,c,_,aL c,by rw[aD b] <;> rfl⟩
 ·have f:(tk=3)=False:=aI b
  refine ur g f trivial ?_;exact zf c (by rw[aC b])
theorem XJ (ts:List bp)(i F:Nat)(hw:pI ts)(b5:ts.length<=1000000)(aw:∀t∈ts,t.ar.length<=140737488351232)(ac:i≠F):
  ∀(kk:Nat) (a:Int) (S:List Int) (H:aA),bN ts.length a->a<kk->H F=some (.row 146 0 1 [[.fn 311 [.rp [.val (.map (some i))],.rp [.seq 5 (ts.map bS)],.ep F 0 1 0 0]]])->H i=some (.map (SM S))->S.Nodup->(∀x∈S,bN ts.length x)->(∀k∈S,k<=a->∀b,BZ mD ts k b->b∈S)->
   aN prog 311 [i64 a,.rp [.val (.map (some i))],.rp [.seq 5 (ts.map bS)],.ep F 0 1 0 0] H λ_ H'=>∃q,H'=H.aU i (.map (SM q))/\q.Nodup/\(∀x∈q,bN ts.length x)/\∀x,x∈q↔x∈S\/BZ mD ts a x:=by
 intro kk
 induction kk using Nat.strongRecOn with
 |ind kk ih=>
  intro a S H D b3 am v a1 J a0
  have aa:=lm bS ts
  have ae:BX a:=by unfold bN at D;unfold BX;omega
  have P:=U4 (by omega) J ae
  refine dO func311 ntmps311 results311 λw0 g0 Q aB=>?_
  by_cases c:a∈S
  ·have B:=Mb c
   refine tq (av v B) ?_;intro U Y O C
   refine⟨P,?_⟩
   refine u0 aB ?_
   exact⟨_,aF _,S,(lX v).symm,a1,J,λx=>⟨.inl,λh=>h.elim id λh=>a0 a c (kJ _) x h⟩⟩
  have B:=Gs c
  have ab:=Cv c
  refine tq (av v B) ?_;intro U Y O C
  refine⟨P,?_⟩
  have N:=gY D
  have E:=λb=>BZ.iff (par:=mD) (ts:=ts) (a:=a) (b:=b)
  have M:=Dn.A hw a D
  have V:(bY ts a).ar.length<=140737488351232:=aw _ (ni D)
  have a8:(mD (bY ts a)).length<=140737488351232:=by unfold mD;split <;> first|exact V|simp
  have w:=TQ (bY ts a)
  obtain⟨t,ht⟩:=oX (bY ts a)
  rw[<-ht] at N M V w a8
  simp only[<-ht] at E
  obtain⟨m,a7⟩:=oX (mD t)
  rw[<-a7] at M w a8
  simp only[<-a7] at E
  obtain⟨tk,tm,tr,te,ta⟩:=t
  simp only[bS] at N w
  have al:0<=a:=D.1
  have ap:a.toNat<ts.length:=by unfold bN at D;omega
  have ad:a<(ts.length:Int):=D.2
  have X:=lm iD m
  refine tq (av v B) ?_;intro U Y O C
  refine⟨P,?_⟩
  rw[ab]
  refine tq (cw N al ap ad aa) ?_;intro U Y O C
  refine(w _).qs X ?_;intro U Y O C
  refine aO m.length (λj s=>s.df=[]/\s.fr 0=i64 a/\s.fr 1=.rp [.val (.map (some i))]/\s.fr 2=.rp [.seq 5 (ts.map bS)]/\s.fr 3=.ep F 0 1 0 0/\s.fr 16=.seq 1 (m.map iD)/\s.fr 17=i64 m.length/\s.fr 18=i64 j/\∃q,s.H=H.aU i (.map (SM q))/\q.Nodup/\(∀x∈q,bN ts.length x)/\∀x,x∈q↔x∈S\/x=a\/∃p∈m.take j,BZ mD ts p x) ⟨rfl,rfl,rfl,rfl,rfl,rfl,rfl,rfl,S++[a],rfl,?_,?_,?_⟩ ?_
  ·rw[mW]
   exact⟨a1,by simp,λx hx y hy e=>by rw[bM] at hy;subst hy;subst e;exact c hx⟩
  ·intro x hx
   rcases bB.1 hx with hx|hx
   ·exact J x hx
   ·rw[bM] at hx;rw[hx];exact D
  ·intro x
   rw[bB,bM]
   constructor
   ·rintro(h|h)
    ·exact .inl h
    ·exact .inr (.inl h)
   ·rintro(h|h|⟨p,R,_⟩)
    ·exact .inl h
    ·exact .inr h
    ·simp at R
  rintro j s hj ⟨a2,f0,f1,f2,f3,Z,G,I,S2,u,a6,a5,z⟩
  have ag:s.H i=some (.map (SM S2)):=by rw[u];exact aK _ _ _
  have W:s.H F=some (.row 146 0 1 [[.fn 311 [.rp [.val (.map (some i))],.rp [.seq 5 (ts.map bS)],.ep F 0 1 0 0]]]):=by rw[u];exact(aJ ac.symm).trans am
  have hx:=aX j
  have ak:=aZ j
  by_cases g:j<m.length
  case neg=>
   have q1:=lF j m.length;rw[bK (by omega)] at z;refine ur aB (bQ G I q1) a2 ?_;refine⟨_,aF _,S2,u,a6,a5,λx=>?_⟩;rw[z x,E x];constructor
   ·rintro(h|h|h)
    ·exact .inl h
    ·exact .inr (.inl h.symm)
    ·exact .inr (.inr h)
   ·rintro(h|h|h)
    ·exact .inl h
    ·exact .inr (.inl h.symm)
    ·exact .inr (.inr h)
  have q1:=lT j m.length
  have w3:=wS j
  have a4:=bT g
  have a3:=M m[j] (ao g)
  have a9:=bw g
  obtain⟨f,hf⟩:=oX m[j]
  rw[<-hf] at a4 a3 a9
  refine tq (bG f3 Z G I q1 a4 hx (cA ak g X W)) ?_;intro U Y O C
  refine(ih (kk - 1) (by omega) f S2 _ ⟨a3.1,by omega⟩ (by omega) W ag a6 a5 ?_).mono ?_
  ·intro k T b4 b hb
   rw[z] at T ⊢
   rcases T with T|rfl|⟨p,R,T⟩
   ·exact .inl (a0 k T (by omega) b hb)
   ·omega
   ·exact .inr (.inr ⟨p,R,T.trans hb⟩)
  rintro d _ ⟨S3,rfl,b2,b0,b1⟩
  refine tq (av I w3) ?_;intro U Y O C
  refine⟨g,a2,f0,f1,f2,f3,Z,G,rfl,S3,by show s.H.aU i _=_;rw[u];exact iv _ _ _ _,b2,b0,λx=>?_⟩
  rw[b1 x,z x,a9]
  simp only[bB,bM]
  constructor
  ·rintro((h|h|⟨p,R,h⟩)|h)
   ·exact .inl h
   ·exact .inr (.inl h)
   ·exact .inr (.inr ⟨p,.inl R,h⟩)
   ·exact .inr (.inr ⟨f,.inr rfl,h⟩)
  ·rintro(h|h|⟨p,R|rfl,h⟩)
   ·exact .inl (.inl h)
   ·exact .inl (.inr (.inl h))
   ·exact .inl (.inr (.inr ⟨p,R,h⟩))
   ·exact .inr h
theorem ZL (ts:List bp)(a:Int)(H:aA)(P:pI ts)(E:ts.length<=1000000)(A:∀t∈ts,t.ar.length<=140737488351232):
  aN prog 243 [.seq 5 (ts.map bS),i64 a] H λd H'=>∃c S,d=.val (.map (some c))/\H c=none/\H' c=some (.map (SM S))/\H.le H'/\S.Nodup/\(∀x∈S,bN ts.length x)/\∀x,x∈S↔bN ts.length a/\BZ mD ts a x:=by
 have g:=lm bS ts;have R:=aF H;refine dO func243 ntmps243 results243 λV T Q v=>?_;refine t0 ?_;intro U Y O C;intro c2 D;refine Y _ ?_;refine cm 2 D ?_;refine tq g ?_;intro U Y O C;intro c b m B;have w:(H.aU c (.map [])) m=none:=B;refine Y _ ?_;refine dZ 5 rfl (aK _ _ _) rfl ?_;refine lB (H.aU c (.map [])) (λx z F=>?_) ?_
 ·have I:x≠m:=λe=>by rw[e,w] at F;cases F
  show(((H.aU c _).aU m _).del m) x=_;rw[bL I,aJ I];exact F
 simp only[St.ku,List.drop];refine t0 ?_;intro U Y O C;intro y k;(iterate 4 (refine tk trivial ?_;intro U Y O C));have f:c≠y:=lj (aK _ _ _) k;have i:H y=none:=(bF.1 k).2;by_cases q:0<=a
 case neg=>
  have u:(0<=a)=False:=aI q;refine ur v u trivial ?_;exact⟨_,aF _,c,[],rfl,b,(aJ f).trans (aK _ _ _),aQ (aQ (aF _) b) i,by simp,by simp,λx=>⟨λh=>(by cases h),λh=>absurd h.1.1 q⟩⟩
 have u:(0<=a)=True:=aG q;by_cases s:a<ts.length
 case neg=>
  have G:(a<(ts.length:Int))=False:=aI s;refine ur v (bQ u G g) trivial ?_;exact⟨_,aF _,c,[],rfl,b,(aJ f).trans (aK _ _ _),aQ (aQ (aF _) b) i,by simp,by simp,λx=>⟨λh=>(by cases h),λh=>absurd h.1.2 s⟩⟩
 have G:(a<(ts.length:Int))=True:=aG s;refine tq (bQ u G g) ?_;intro U Y O C;refine(XJ ts c y P E A f ts.length a [] _ ⟨by omega,by omega⟩ (by omega) (aK _ _ _) ((aJ f).trans (aK _ _ _)) (by simp) (by simp) (by simp)).mono ?_;rintro d _ ⟨S,rfl,N,J,M⟩;refine u0 v ?_;refine⟨_,aF _,c,S,rfl,b,aK _ _ _,aQ (aQ (aQ (aF _) b) i) b,N,J,λx=>?_⟩;rw[M x];exact⟨λh=>h.elim (λh=>by cases h) λh=>⟨⟨q,s⟩,h⟩,λh=>.inr h.2⟩
def rbd (ts:List bp) (n:Int):Prop:=∀t∈ts,t.k=3->0<=t.r/\t.r<n
theorem TY {ts:List bp}{out:List Int}(hb:rbd ts 1000000)(g:∀x,x∈S↔bN ts.length a/\BZ mD ts a x)(hi:∀x∈S,bN ts.length x)(ho:∀x,x∈out↔∃b∈S,(bY ts b).k=3/\(bY ts b).r=x):mC (dL out)=xR ts a:=by
 refine qK (xg (vr out)) (GJ ts a) λx=>?_;rw[vM,sx,ho,Al];constructor
 ·rintro⟨b,c,e,f⟩
  have d:=(g b).1 c;have:=hb _ (ni (hi b c)) e;exact⟨⟨by omega,by omega⟩,d.1,b,d.2,e,f⟩
 ·rintro⟨_,d,b,h,e,f⟩
  exact⟨b,(g b).2 ⟨d,h⟩,e,f⟩
theorem UL (ts:List bp)(a:Int)(H:aA)(hw:pI ts)(hb:rbd ts 1000000)(bc:ts.length<=1000000)(b6:∀t∈ts,t.ar.length<=140737488351232):
  aN prog 167 [.seq 5 (ts.map bS),i64 a] H λd H'=>d=.seq 1 ((xR ts a).map iD)/\H=H':=by
 refine aq (K:=λd=>d=.seq 1 ((xR ts a).map iD)) ?_;have v:=lm bS ts;refine dO func167 ntmps167 results167 λw0 g0 Q aB=>?_;refine t0 ?_;intro U Y O C;refine(ZL ts a H hw bc b6).mono ?_;rintro d H1 ⟨bm,S,rfl,b8,b1,a2,b5,P,b4⟩;refine t0 ?_;intro U Y O C;refine zX (SV S) rfl (show(10:Nat)<33 by decide) underlying338 rfl b1 ?_;intro r H2 ae bo b2 aw;have am:H.le H2:=λx z T=>by
  have h1:=a2 x z T;rw[aw x (λe=>by rw[e,b8] at T;cases T) (λe=>by rw[e] at h1;exact absurd (ae.symm.trans h1) (by simp))];exact h1
 have ap:H r=none:=by
  cases h:H r with
  |none=>rfl
  |some z=>exact absurd (ae.symm.trans (a2 r z h)) (by simp)
 refine Y _ ?_;refine t0 ?_;intro U Y O C;refine jz (λk s=>∃(f m out:List Int) (X:Option Nat),k=f.length/\s.df=[]/\s.fr 0=.seq 5 (ts.map bS)/\s.fr 10=.val (.pointer (some ⟨r,0,none⟩))/\B0 s.H bm r (SV f)/\H.le s.H/\Gl H 3 1 (out.map iD) (s.fr 5) s.H X/\X≠some bm/\X≠some r/\(∀x,x∈S↔x∈m\/x∈f)/\(∀x,x∈out↔∃b∈m,(bY ts b).k=3/\(bY ts b).r=x)/\out.length<=m.length/\m.length+f.length=S.length) S.length ⟨S,[],[],none,rfl,rfl,rfl,rfl,b2,am,eB _ _ _ _,by simp,by simp,by simp,by simp,by simp,by simp⟩ ?_;rintro n s ⟨f,m,out,X,rfl,F,W,g,hR,aM,hg,a6,I,aa,a4,OH,b9⟩;obtain⟨d5,E⟩:=oX (s.fr 5);rw[<-E] at hg;have bk:=ju b5 P;refine tq g ?_;intro U Y O C;refine uw rfl (show(11:Nat)<33 by decide) g hR (λR=>?_) (λl1 p l2 Z R b3 a9 ab=>?_)
 ·have be:f=[]:=by
   cases f with
   |nil=>rfl
   |cons a l=>cases R
  subst be
  have a1:=TY hb b4 P (out:=out) (λx=>by rw[a4];constructor <;> (rintro⟨b,h1,N⟩;exact⟨b,by have:=aa b;simp at this;first|exact this.2 h1|exact this.1 h1,N⟩))
  refine eV trivial ?_;refine nx ?_
  refine t0 ?_;intro U Y O C
  rw[E] at hg
  have a0:H.le s.H:=aM
  rcases hg with⟨_,G,e2⟩|⟨c,o,e0,G,e2,e3⟩
  ·have b0:out=[]:=by simpa using e2
   rw[G]
   refine(vt _).qs G ?_;intro U Y O C
   refine(xi _).q ?_
   refine ur aB trivial F ?_
   exact⟨_,aF _,a0,.seq 1 [],iq,by rw[<-a1,b0];simp [dL,mC]⟩
  ·have bi:out.length<=1000000:=by omega
   rw[aS] at G
   rw[G]
   refine(vu e3 (by omega)).mono ?_
   rintro d _ ⟨rfl,rfl⟩
   refine tq G ?_;intro U Y O C
   have h5:((s.H.aU c (.row 3 o 1 ((dL out).map iD))) c)=some (.row 3 o 1 ((dL out).map iD)):=aK _ _ _
   have h6:=xj h5 (by rw[dw];omega)
   rw[dw] at h6
   refine h6.mono ?_
   rintro d _ ⟨rfl,a8,rfl,a7⟩
   refine ur aB trivial F ?_
   have u:H.le (s.H.aU c (.row 3 o 1 (a8.map iD))):=aQ a0 e2
   have bl:(mC (dL out)).length<=a8.length:=by have:=ai List.length a7;rw[bX] at this;omega
   exact⟨_,aF _,u,_,nY (k:=0) u (aK _ _ _) e2 (by rw[aS];omega),by rw[dj,<-iK,a7,a1]⟩
 ·obtain⟨t1,bq,G,e2,e3⟩:=wH.1 R
  obtain⟨b,t2,e4,e5,e6⟩:=wL.1 e3;subst G e4 e2 e6 e5;have J:∀x,x∈S↔x∈m++[b]\/x∈t1++t2:=λx=>by
   rw[aa x,bB,bB,bB,bV,bM];constructor
   ·rintro(h|h|h|h)
    ·exact .inl (.inl h)
    ·exact .inr (.inl h)
    ·exact .inl (.inr h)
    ·exact .inr (.inr h)
   ·rintro((h|h)|h|h)
    ·exact .inl h
    ·exact .inr (.inr (.inl h))
    ·exact .inr (.inl h)
    ·exact .inr (.inr (.inr h))
  have b7:b∈S:=(J b).2 (.inl (by simp));have D:=P b b7;have A:B0 Z bm r (SV (t1++t2)):=by
   have:SV (t1++t2)=SV t1++SV t2:=bI;rw[this];exact b3
  have a5:H.le Z:=λx z T=>(ab x (λe=>by rw[e,ap] at T;cases T)).trans (aM x z T);have MU:Gl H 3 1 (out.map iD) d5 Z X:=hg.cM λc hc=>ab c λe=>I (by rw[hc,e]);have ac:m.length+1+(t1++t2).length=S.length:=by rw[<-b9,aV,aV,bx];omega
  have i:=gY D;have y:0<=b:=D.1;have B:b.toNat<ts.length:=by unfold bN at D;omega
  have w:b<(ts.length:Int):=D.2;obtain⟨t,ht⟩:=oX (bY ts b);have a3:∀(M:List Int),(∀x,x∈M↔x∈out\/(t.k=3/\t.r=x))->∀x,x∈M↔∃V∈m++[b],(bY ts V).k=3/\(bY ts V).r=x:=λM h x=>by
   rw[h x,a4 x];constructor
   ·rintro(⟨V,h1,N⟩|h)
    ·exact⟨V,by simp [h1],N⟩
    ·exact⟨b,by simp,by rw[<-ht];exact h⟩
   ·rintro⟨V,h1,N⟩
    rcases bB.1 h1 with h1|h1
    ·exact .inl ⟨V,h1,N⟩
    ·rw[bM] at h1
     rw[h1,<-ht] at N;exact .inr N
  rw[<-ht] at i;obtain⟨tk,tm,tr,te,ta⟩:=t;simp only[bS] at i;have bf:tk=3\/tk≠3:=by omega
  rcases bf with h3|h3
  ·have q3:(tk=3)=True:=aG h3
   refine eV trivial ?_;refine nx ?_;refine t0 ?_;intro U Y O C;refine rj rfl (show(13:Nat)<33 by decide) (by exact g) a9 ?_;refine eV (ej W i y B w v q3) ?_;refine nx ?_;refine tq (ej W i y B w v q3) ?_;intro U Y O C;rw[E] at MU;refine ax (e:=3) fk rfl fk rfl yv rfl (by decide) a5 MU (new:=[iD tr]) (by exact⟨rfl,rfl⟩) (by rw[aS];show(_+1) * 8<=_;omega) λd H6 al ba u ad=>?_;have bb:Gl H 3 1 ((out++[tr]).map iD) d H6 al:=by rw[bI];exact ba
   obtain⟨zb,ag⟩:∃z,Z bm=some z:=by obtain⟨_,_,_,_,_,h,_⟩:=A;exact⟨_,h⟩
   obtain⟨zr,ak⟩:∃z,Z r=some z:=by obtain⟨_,_,_,_,_,_,h,_⟩:=A;exact⟨_,h⟩
   have k1:=ad bm zb ag a6;have k2:=ad r zr ak I;refine tz ?_;exact⟨_,by show(t1++t2).length<(t1++b::t2).length;rw[aV,aV,bx];omega,t1++t2,m++[b],out++[tr],al,rfl,F,W,g,A.cM (k1.1.trans ag.symm) (k2.1.trans ak.symm),u,bb,k1.2,k2.2,J,a3 (out++[tr]) λx=>by rw[bB,bM];exact⟨λh=>h.imp id λh=>⟨h3,h.symm⟩,λh=>h.imp id λh=>h.2.symm⟩,by rw[aV,aV];simpa using OH,by rw[aV];exact ac⟩
  ·have q3:(tk=3)=False:=aI h3
   refine eV trivial ?_;refine nx ?_;refine t0 ?_;intro U Y O C;refine rj rfl (show(13:Nat)<33 by decide) (by exact g) a9 ?_;refine eV (ej W i y B w v q3) ?_;refine nx ?_;refine tq (ej W i y B w v q3) ?_;intro U Y O C;refine tz ?_;exact⟨_,by show(t1++t2).length<(t1++b::t2).length;rw[aV,aV,bx];omega,t1++t2,m++[b],out,X,rfl,F,W,g,A,a5,by rw[E] at MU;exact MU,a6,I,J,a3 out λx=>⟨.inl,λh=>h.elim id λh=>absurd h.1 h3⟩,by rw[aV];omega,by rw[aV];exact ac⟩
noncomputable def QV (b:bn) (L:List Int):List Int:=L.flatMap λx=>xR b.ty (KA b x)
theorem GI (ts:List bp)(i:Int):(xR ts i).length<=1000000:=by
 unfold xR;have:=kU (λr=>Ja ts i r) ((List.range 1000000).map Int.ofNat);rwa[aS,tL] at this
theorem KE (b:bn)(L:List Int):(QV b L).length<=L.length * 1000000:=oP λx _=>GI _ _
theorem QW {b:bn}(h:j<L.length):QV b (L.take (j+1))=QV b (L.take j)++xR b.ty (KA b L[j]):=by
 unfold QV;rw[bw h,gb];simp
def vY (p:Int) (S:List (Int×Int)) (l:List Int):List (Int×Int):=l.foldl (λS r=>uQ S (r,p)) S
theorem L6 {S:List (Int×Int)}{l:List Int}(h:j<l.length):vY p S (l.take (j+1))=uQ (vY p S (l.take j)) (l[j],p):=by
 unfold vY;rw[bw h,mX];rfl
theorem Fl {l:List Int}:∀{S:List (Int×Int)}{y:Int×Int},y∈vY p S l↔y∈S\/(y.2=p/\y.1∈l):=by
 induction l with
 |nil=>intro S y;simp [vY]
 |cons r l c=>
  intro S y
  have e:vY p S (r::l)=vY p (uQ S (r,p)) l:=rfl
  rw[e,c,Fm,bV]
  constructor
  ·rintro((h|h)|h)
   ·exact .inl h
   ·rw[h];exact .inr ⟨rfl,.inl rfl⟩
   ·exact .inr ⟨h.1,.inr h.2⟩
  ·rintro(h|⟨b,h2|h2⟩)
   ·exact .inl (.inl h)
   ·exact .inl (.inr (mc h2 b))
   ·exact .inr ⟨b,h2⟩
theorem OO (p:Int)(l:List Int):∀S,(vY p S l).length<=S.length+l.length:=by
 induction l with
 |nil=>intro S;exact bh _
 |cons r l b=>
  intro S
  have e:vY p S (r::l)=vY p (uQ S (r,p)) l:=rfl
  have c:=b (uQ S (r,p))
  have d:=OP S (r,p)
  rw[e,bx];omega
theorem Vx (b:bn)(k:∀x,x∈L↔zU b p x)(y:pI b.ty)(f:rbd b.ty 1000000)(r:Int):r∈rO b.ol b.rg.length (QV b L) b.rg.length↔KS b r p:=by
 unfold rO;rw[fN,cD,tO];constructor
 ·rintro⟨_,m,c,d⟩
  obtain⟨x,i,c⟩:=la.1 c;exact⟨x,m,(k x).1 i,(Al.1 c).2,d⟩
 ·rintro⟨x,m,i,c,d⟩
  have e:bN b.rg.length r/\bN b.rg.length m/\Reach b.ol r m:=by
   refine eC λh=>?_;rw[lP h] at d;cases d
  obtain⟨z,s⟩:=e.1;refine⟨⟨r.toNat,by rw[ib];omega,by omega⟩,m,la.2 ⟨x,(k x).2 i,Al.2 ⟨?_,c⟩⟩,d⟩;obtain⟨q,t,w,u,v⟩:=c;have g:bN b.ty.length t:=by
   have s:=w.le (Dn.A y) q;unfold bN at q ⊢;omega
  have:=f _ (ni g) u;rw[v] at this;exact this
theorem Hg {b:bn}(h:KS b r p):bN b.rg.length r:=by
 obtain⟨x,m,f,e,c⟩:=h;refine eC λh=>?_;rw[lP λd=>h d.1] at c;cases c
theorem Ot {b:bn}(h:KS b r p):0<=p/\p<bu (fD b):=by
 obtain⟨x,m,c,d,e⟩:=h;exact(Dz c).1
theorem E3 {l:List Int}(h:l.Nodup):(dL l).Pairwise (·<·):=by
 have e:(dL l).Pairwise λa b=>decide (a<=b)=true:=yz (λa b c e d=>by simp at *;omega) (λa b=>by simp;omega) l;have d:(dL l).Nodup:=(tK l _).nodup_iff.2 h;rw[yy] at d;exact(e.and d).imp λ{a b} h=>by have:=h.1;have:=h.2;simp at *;omega
theorem DK (l:List (Int×Int))(n:Int)(o:List Int)(i:Nat):(rO l n o i).Pairwise (·<·):=by
 unfold rO;refine List.Pairwise.filter _ ?_;rw[rE];exact tI.imp λh=>by omega
theorem Kj {x:Int}:x∈rO l n o n.toNat↔bN n x/\∃q∈o,bN n q/\Reach l x q:=by
 unfold rO;rw[fN,cD,tO];constructor
 ·rintro⟨⟨k,f,rfl⟩,q,c,d⟩
  rw[ib] at f;have:bN n k/\bN n q/\Reach l k q:=eC λh=>by rw[lP h] at d;cases d
  exact⟨this.1,q,c,this.2⟩
 ·rintro⟨b,q,c,e⟩
  refine⟨⟨x.toNat,?_,?_⟩,q,c,yq ⟨b,e⟩⟩
  ·rw[ib];unfold bN at b;omega
  ·unfold bN at b;omega
theorem IF {b:Int}(hc:∀y∈S,∀x,(x,y)∈l->x∈S)(h:Reach l a b):b∈S->a∈S:=by
 induction h with
 |refl=>exact id
 |step _ c e=>exact λd=>e (hc _ d _ c)
theorem FG (c:S.Nodup)(b:∀x∈S,bN n x/\∃q∈o,bN n q/\Reach l x q)(d:∀q∈o,bN n q->q∈S)(hc:∀y∈S,∀x,(x,y)∈l->x∈S):dL S=rO l n o n.toNat:=by
 refine qK (E3 c) (DK _ _ _ _) λx=>?_;rw[sx,Kj];constructor
 ·exact b x
 ·rintro⟨_,q,g,e,f⟩
  exact IF hc f (d q g e)
theorem BF (x:Int)(S:List Int):∀y,(if y=x then some (D.val (.bool true)) else ig S y)=ig (S++[x]) y:=λy=>by
 rw[uc x S y];unfold ig;have:(y∈x::S)=(y∈S++[x]):=by simp [or_comm]
 simp only[this]
structure CSR (l:List (Int×Int)) (n:Int) (o S:List Int) (i:Nat):Prop where
 nd:S.Nodup
 inr:∀x∈S,bN n x/\∃q∈o,bN n q/\Reach l x q
 st:∀q∈o,bN n q->q∈S
 cl:∀y∈S.take i,∀x,(x,y)∈l->x∈S
def YA (H:aA) (b:Nat) (S:List Int) (d:D) (H':aA):Prop:=∃c o,d=.os c o 1 0 S.length/\H c=none/\H' c=some (.row 3 o 1 (S.map iD))/\c≠b
def C1 (o:List Int) (n:Int) (d e b:Nat) (H:aA) (i:Nat) (s:St):Prop:=
 s.df=[]/\s.fr 0=fJ n d e/\s.fr 5=.val (.map (some b))/\s.fr 13=.seq 1 (o.map iD)/\s.fr 14=i64 o.length/\s.fr 15=i64 i/\H.le s.H/\∃M S c,s.H b=some (.map M)/\fZ M (ig S)/\Gl H 3 1 (S.map iD) (s.fr 6) s.H c/\c≠some b/\S.Nodup/\(∀x∈S,bN n x/\x∈o)/\∀k (h:k<o.length),k<i->bN n o[k]->o[k]∈S
def C2 (l:List (Int×Int)) (o:List Int) (n:Int) (d e b:Nat) (H:aA) (i:Nat) (S:List Int) (s:St):Prop:=
 s.df=[]/\s.fr 0=fJ n d e/\s.fr 5=.val (.map (some b))/\s.fr 9=i64 i/\H.le s.H/\∃M c,s.H b=some (.map M)/\fZ M (ig S)/\Gl H 3 1 (S.map iD) (s.fr 6) s.H c/\c≠some b/\CSR l n o S i/\i<=S.length
theorem Vz (l:List (Int×Int))(n:Int)(o:List Int)(b1 b2:Nat)(H:aA)(hR:oc l b1 b2 H)(de:∀p∈l,bN n p.1/\bN n p.2)(hn:n<=1000000)(hl:l.length<=1000000)(ho:o.length<=140737488351232):
  aN prog 168 [fJ n b1 b2,.seq 1 (o.map iD)] H λd H'=>d=.seq 1 ((rO l n o n.toNat).map iD)/\H=H':=by
 refine aq (K:=λd=>d=.seq 1 ((rO l n o n.toNat).map iD)) ?_;obtain⟨m1,m2,e2,rV,dl,c9⟩:=hR;have OH:=lm iD o;refine dO func168 ntmps168 results168 λw0 g0 Q aB=>?_;refine to trivial ?_;intro U Y O C;intro g be;refine tn OH ?_;refine aO o.length (C1 o n b1 b2 g H) ⟨rfl,rfl,rfl,rfl,rfl,rfl,aQ (aF _) be,[],[],none,aK _ _ _,fZ.nil.congr Cn,eB _ _ _ _,by simp,by simp,by simp,by simp⟩ ?_;rintro i s hi ⟨ak,f0,f5,ag,V,b,aM,M,S,ob,B,hM,hg,a5,a4,hS,ae⟩;have hx:=aX i;have d3:=aZ i;by_cases D:i<o.length
 case pos=>
  have q1:=lT i o.length;have m:=bT D;have w3:=wS i;obtain⟨x,f⟩:=oX o[i];rw[<-f] at m;have dx:x∈o:=f▸ao D;refine tq (bG f0 ag V b q1 m hx (bQ d3 D OH)) ?_;intro U Y O C;refine(OG n x b1 b2 _).q ?_;by_cases a7:bN n x
  case neg=>
   rw[af a7];refine tq (av b w3) ?_;intro U Y O C;refine⟨D,ak,f0,f5,ag,V,rfl,aM,M,S,ob,B,hM,hg,a5,a4,hS,λk hk cd u=>?_⟩;by_cases a2:k=i
   ·subst a2;rw[<-f] at u;exact absurd u a7
   ·exact ae k hk (by omega) u
  rw[ah a7];have ac: -9223372036854775808<=x/\x<=9223372036854775807:=by unfold bN at a7;omega
  have F:=hM.ok (P:=prog) underlying3 ac;have al:=hM.get x;by_cases G:x∈S
  ·have v:ig S x=some (.val (.bool true)):=aD G
   rw[v] at al;refine tq (cw f5 b w3 B al) ?_;intro U Y O C;refine⟨F,?_⟩;refine tq (bQ f5 b w3) ?_;intro U Y O C;refine⟨D,ak,f0,f5,ag,V,rfl,aM,M,S,ob,B,hM,hg,a5,a4,hS,λk hk cd u=>?_⟩;by_cases a2:k=i
   ·subst a2;rw[<-f];exact G
   ·exact ae k hk (by omega) u
  ·have v:ig S x=none:=aC G
   rw[v] at al;refine tq (cw f5 b w3 B al) ?_;intro U Y O C;refine⟨F,?_⟩;refine tq (cA f5 b w3 B) ?_;intro U Y O C;refine⟨F,?_⟩;have Z:fZ (eJ M (.int .i64 x) (.val (.bool true))) (ig (S++[x])):=(hM.set ac (.val (.bool true))).congr (BF x S);obtain⟨T,b8⟩:=oX (eJ M (.int .i64 x) (.val (.bool true)));rw[<-b8] at Z ⊢;have bo:(s.H.aU g (.map T)) g=some (.map T):=aK _ _ _;have b5:H.le (s.H.aU g (.map T)):=aQ aM be;have bi:Gl H 3 1 (S.map iD) (s.fr 6) (s.H.aU g (.map T)) ob:=hg.cM λc' d8=>aJ λe=>a5 (by rw[d8,e]);refine tq (bQ f5 b w3) ?_;intro U Y O C;have d7:=ju a4 λz hz=>(hS z hz).1;refine ax (e:=3) fk rfl fk rfl yv rfl (by decide) b5 bi (new:=[iD x]) (by exact⟨rfl,rfl⟩) (by rw[aS];show(_+1) * 8<=_;omega) λd H6 ci a0 b3 bq=>?_;have a3:=bq _ _ bo a5;rw[show[iD x]=[x].map iD from rfl,<-bI] at a0;refine tq (av b w3) ?_;intro U Y O C;refine⟨D,ak,f0,f5,ag,V,rfl,b3,T,S++[x],ci,a3.1,Z,a0,a3.2,?_,?_,λk hk cd u=>?_⟩
   ·rw[mW]
    exact⟨a4,by simp,λz hz w hw=>by rw[bM] at hw;subst hw;exact λe=>G (e▸hz)⟩
   ·intro z hz
    rcases bB.1 hz with hz|hz
    ·exact hS z hz
    ·rw[bM] at hz;subst hz;exact⟨a7,dx⟩
   ·by_cases a2:k=i
    ·subst a2;rw[<-f];simp
    ·exact bB.2 (.inl (ae k hk (by omega) u))
 case neg=>
  have q1:=lF i o.length;refine tq (bQ V b q1) ?_;intro U Y O C;have d4:CSR l n o S 0:=⟨a4,λx hx=>⟨(hS x hx).1,x,(hS x hx).2,(hS x hx).1,.refl x⟩,λq hq a6=>by
   obtain⟨k,hk,rfl⟩:=kV hq;exact ae k hk (by omega) a6,by simp⟩
  refine jz (λk s=>∃i S,C2 l o n b1 b2 g H i S s/\k=n.toNat - i) (n.toNat - 0) ⟨0,S,⟨ak,f0,f5,rfl,aM,M,ob,B,hM,hg,a5,d4,by omega⟩,rfl⟩ ?_;rintro k s1 ⟨A,J,⟨ar,k0,k5,k9,aw,M1,e3,dz,kM,kg,e0,kS,kiS⟩,hk⟩;have d7:=ju kS.nd λz hz=>(kS.inr z hz).1;have bs:=aX A;have bb:=aZ A;rcases kg with⟨_,W,d6⟩|⟨c,oo,cq,W,bf,X⟩
  ·have d5:J=[]:=by cases J with
    |nil=>rfl
    |cons a t=>cases d6
   subst d5
   have cr:A=0:=by simpa using kiS
   subst cr
   refine tq (av k9 W) ?_;intro U Y O C
   refine(vt _).q ?_
   refine ur aB W ar ?_
   have b4:=FG kS.nd kS.inr kS.st (by simp)
   have dp:dL []=[]:=cy (dw [])
   exact⟨_,aF _,aw,_,iq,by rw[<-b4,dp] <;> rfl⟩
  ·rw[aS] at W
   have co:c≠g:=λe=>e0 (by rw[cq,e]);by_cases b9:A<J.length
   case neg=>
    have q1:=nF ((A:Int)<(J.length:Int));refine tq (bQ k9 W q1) ?_;intro U Y O C;refine(vu X (by omega)).mono ?_;rintro d _ ⟨rfl,rfl⟩;have b4:=FG kS.nd kS.inr kS.st (by
     have:=kS.cl;rwa[bK (by omega)] at this)
    have c7:H.le (s1.H.aU c (.row 3 oo 1 ((dL J).map iD))):=aQ aw bf;have d9:Gl H 3 1 ((dL J).map iD) (.os c oo 1 0 J.length) (s1.H.aU c (.row 3 oo 1 ((dL J).map iD))) (some c):=.inr ⟨c,oo,rfl,by rw[aS,dw],bf,aK _ _ _⟩;refine ur aB W ar ?_;exact⟨_,aF _,c7,_,da c7 d9,by rw[b4]⟩
   have q1:=nT ((A:Int)<(J.length:Int));have m:=bT b9;obtain⟨x,f⟩:=oX J[A];rw[<-f] at m;have G:=kS.inr x (f▸ao b9);have ac: -9223372036854775808<=x/\x<=9223372036854775807:=by have:=G.1;unfold bN at this;omega
   have c5:s1.H b2=some (.map m2):=aw _ _ dl;have F:=c9.ok (P:=prog) underlying3 ac;have a1:=c9.get x;(iterate 7 (refine tk (bG k0 k5 k9 W q1 X m (av bs bb)) ?_;intro U Y O C));refine Gu 49 (.val (.slice none 0 0)) (.seq 1 []) fO (λs'=>s'.df=[]/\s'.fr 0=fJ n b1 b2/\s'.fr 5=.val (.map (some g))/\s'.fr 6=.os c oo 1 0 J.length/\s'.fr 9=i64 A/\s'.fr 49=.seq 1 ((cT l x).map iD)/\s'.fr 50=i64 (cT l x).length/\s'.fr 51=i64 0/\s'.H=s1.H) ?_ ?_
   ·unfold Aa at a1
    by_cases am:cT l x=[]
    ·rw[aD am] at a1
     refine dE (λ_ _ _ _=>False) λU Y=>?_;refine dst (bG k0 k5 k9 W @fJ.eq_1 c5 a1 (cA X m bs bb)) ?_;intro U Y O C;exact⟨by omega,F,Y _ (.inr ⟨rfl,ar,k0,k5,W,k9,by rw[am] <;> rfl,by rw[am] <;> rfl,rfl,rfl⟩)⟩
    ·rw[aC am] at a1
     refine dE (λ_ _ _ _=>False) λU Y=>?_;refine dst (bG k0 k5 k9 W @fJ.eq_1 c5 a1 (cA X m bs bb)) ?_;intro U Y O C;exact⟨by omega,F,Y _ (.inl ⟨ar,k0,k5,W,k9,rfl,rfl,rfl,rfl⟩)⟩
   rintro s2 ⟨d2,g0,g5,g6,g9,ct,cv,d1,bc⟩;have ce:(List.map iD (cT l x)).length=(cT l x).length:=aS _;refine nP ?_;refine aO (cT l x).length (λj s=>s.df=[]/\s.fr 0=fJ n b1 b2/\s.fr 5=.val (.map (some g))/\s.fr 9=i64 A/\s.fr 49=.seq 1 ((cT l x).map iD)/\s.fr 50=i64 (cT l x).length/\s.fr 51=i64 j/\H.le s.H/\∃M S,s.H g=some (.map M)/\fZ M (ig S)/\YA H g S (s.fr 6) s.H/\CSR l n o S A/\S[A]?=some x/\∀t (h:t<(cT l x).length),t<j->(cT l x)[t]∈S) ?_ ?_
   ·refine⟨d2,g0,g5,g9,ct,cv,d1,by rw[bc];exact aw,M1,J,by rw[bc];exact dz,kM,⟨c,oo,g6,bf,by rw[bc];exact X,co⟩,kS,by rw[az b9,f],by omega⟩
   rintro j s3 hj ⟨c0,l0,l5,l9,b0,a8,I,c1,M3,N,a9,lM,⟨c3,o3,l6,b6,b7,ad⟩,R,aa,ba⟩;have cc:=aX j;have c8:=aZ j;have dd:A<N.length:=(gI.1 aa).1;have e1:=ju R.nd λz hz=>(R.inr z hz).1;by_cases E:j<(cT l x).length
   case neg=>
    have q3:=nF ((j:Int)<((cT l x).length:Int));have w3:=wS A;refine tq (cw l9 a8 I q3 w3) ?_;intro U Y O C;refine⟨n.toNat - (A+1),(show _<_ by omega),A+1,N,⟨c0,l0,l5,rfl,c1,M3,some c3,a9,lM,.inr ⟨c3,o3,rfl,by rw[aS];exact l6,b6,b7⟩,(λe=>ad (by injection e)),⟨R.nd,R.inr,R.st,λy hy z hz=>?_⟩,by omega⟩,rfl⟩;rw[List.take_add_one,aa] at hy;rcases bB.1 hy with hy|hy
    ·exact R.cl y hy z hz
    ·have dy:y=x:=by simpa using hy
     subst dy;obtain⟨t,ht,he⟩:=kV (qC.2 hz);rw[<-he];exact ba t ht (by omega)
   have q3:=nT ((j:Int)<((cT l x).length:Int));have bk:=bT E;obtain⟨y,hy⟩:=oX ((cT l x)[j]);rw[<-hy] at bk;have ch:(y,x)∈l:=qC.1 (by rw[hy];exact ao E);have bt:=(de _ ch).1;simp only at bt;have c4: -9223372036854775808<=y/\y<=9223372036854775807:=by unfold bN at bt;omega
   have w4:IntKind.i64.wrap ((j:Int)+1)=((j+1:Nat):Int):=by
    have:(cT l x).length<=l.length:=by unfold cT;rw[aS];exact kU _ _
    rw[aP (by omega)];omega
   have bl:=lM.ok (P:=prog) underlying3 c4;have ab:=lM.get y;by_cases ap:y∈N
   ·have v:ig N y=some (.val (.bool true)):=aD ap
    rw[v] at ab;refine tq (bG l5 b0 a8 I q3 bk cc (cw c8 E ce a9 ab)) ?_;intro U Y O C;refine⟨bl,?_⟩;refine tq (av I w4) ?_;intro U Y O C;refine⟨E,c0,l0,l5,l9,b0,a8,rfl,c1,M3,N,a9,lM,⟨c3,o3,l6,b6,b7,ad⟩,R,aa,λt ht dt=>?_⟩;by_cases br:t=j
    ·subst br;rw[<-hy];exact ap
    ·exact ba t ht (by omega)
   ·have v:ig N y=none:=aC ap
    rw[v] at ab;refine tq (bG l5 b0 a8 I q3 bk cc (cw c8 E ce a9 ab)) ?_;intro U Y O C;refine⟨bl,?_⟩;refine tq (bQ l5 I a9) ?_;intro U Y O C;refine⟨bl,?_⟩;have Z:fZ (eJ M3 (.int .i64 y) (.val (.bool true))) (ig (N++[y])):=(lM.set c4 (.val (.bool true))).congr (BF y N);obtain⟨T,b8⟩:=oX (eJ M3 (.int .i64 y) (.val (.bool true)));rw[<-b8] at Z ⊢;have bo:(s3.H.aU g (.map T)) g=some (.map T):=aK _ _ _;have b5:H.le (s3.H.aU g (.map T)):=aQ c1 be;have bi:Gl H 3 1 (N.map iD) (.os c3 o3 1 0 N.length) (s3.H.aU g (.map T)) (some c3):=.inr ⟨c3,o3,rfl,by rw[aS],b6,by rw[aJ ad];exact b7⟩;have dm:(some c3:Option Nat)≠some g:=λe=>ad (by injection e);refine tq (av l6 w4) ?_;intro U Y O C;refine ax (e:=3) fk rfl fk rfl yv rfl (by decide) b5 bi (new:=[iD y]) (by exact⟨rfl,rfl⟩) (by rw[aS];show(_+1) * 8<=_;omega) λd H6 ci a0 b3 bq=>?_;have a3:=bq _ _ bo dm;rw[show[iD y]=[y].map iD from rfl,<-bI] at a0;have ck:YA H g (N++[y]) d H6:=by
     rcases a0 with⟨_,_,h⟩|⟨c,o,h0,h1,h2,h3⟩
     ·simp at h
     ·exact⟨c,o,by rw[h1,aS],h2,h3,λe=>a3.2 (by rw[h0,e])⟩
    refine tq (av I w4) ?_;intro U Y O C;refine⟨E,c0,l0,l5,l9,b0,a8,rfl,b3,T,N++[y],a3.1,Z,ck,⟨?_,?_,?_,?_⟩,?_,λt ht dt=>?_⟩
    ·rw[mW]
     exact⟨R.nd,by simp,λz hz w hw=>by rw[bM] at hw;subst hw;exact λe=>ap (e▸hz)⟩
    ·intro z hz
     rcases bB.1 hz with hz|hz
     ·exact R.inr z hz
     ·rw[bM] at hz
      subst hz;obtain⟨_,q,hq,a6,dn⟩:=R.inr x (eh aa);exact⟨bt,q,hq,a6,((Reach.refl z).step ch).trans dn⟩
    ·exact λq hq a6=>bB.2 (.inl (R.st q hq a6))
    ·intro z hz w hw
     rw[uh (by omega)] at hz;exact bB.2 (.inl (R.cl z hz w hw))
    ·rw[kT dd];exact aa
    ·by_cases br:t=j
     ·subst br;rw[<-hy];simp
     ·exact bB.2 (.inl (ba t ht (by omega)))
structure VT (b:bn):Prop where
 lv:Gn b
 ck:∀H,aN prog 35 [.agg (cu b)] H λd H'=>d=i64 0/\H=H'
 rel:fc b.ol b.rg.length=0
 wt:pI b.ty
 rb:rbd b.ty 1000000
 tl:b.ty.length<=1000000
 ar:∀t∈b.ty,t.ar.length<=140737488351232
 MX:b.rg.length<=10000
 Qm:b.ol.length<=1000000
 Xp:b.lc.length<=10000
 lin:∀p x,zU b p x->bN b.lc.length x
structure RgS (b:bn) (n:Nat) (bs:Nat) (RD:D) (GM:List (List D)) (i:Nat) (s:St):Prop where
 df:s.df=[]
 f1:s.fr 1=.rp (cu b)
 f4:s.fr 4=RD
 f6:s.fr 6=.val (.map (some bs))
 f30:s.fr 30=.seq 1 GM
 f31:s.fr 31=i64 n
 f32:s.fr 32=i64 i
structure RgI (b:bn) (HR:aA) (bs i:Nat) (S:List (Int×Int)) (Hs:aA):Prop where
 le:HR.le Hs
 m:Hs bs=some (.map (yO S))
 mem:∀y,y∈S↔(0<=y.2/\y.2<i)/\KS b y.1 y.2
 len:S.length<=i * 10000
theorem aCd:Qq 171:=⟨jH func171 rfl rfl,Vv⟩
theorem Sj (b:bn)(H:aA)(ok:VT b):aN prog 93 [.agg (cu b)] H λd H'=>∃S:List (Int×Int),(S.length<=1300000/\∀y,y∈S↔KS b y.1 y.2)/\d=.eO [.seq 2 ((en S).map pD),i64 0]/\H=H':=by
 have aw:=ok.ck;have bt:=ok.lv.cn;have a6:=λH1=>Ou b H1 ok.lv;obtain⟨n,hn⟩:=oX (bu (fD b));rw[<-hn] at a6 bt;have ch:=lm sD b.rg;have cr:=ok.MX;have bf:=λH1=>Up b.ol b.rg.length H1 (by omega) ok.rel;refine gQ (aq (K:=λd=>∃S:List (Int×Int),(S.length<=1300000/\∀y,y∈S↔KS b y.1 y.2)/\d=.eO [.seq 2 ((en S).map pD),i64 0]) ?_) (λd H' ⟨⟨S,F,z⟩,h3⟩=>⟨S,F,z,h3⟩);unfold cu at aw a6 ⊢;refine dO func93 ntmps93 results93 λw0 g0 Q aB=>?_;refine t0 ?_;intro U Y O C;intro c1 bq;refine Y _ ?_;refine cm 1 bq ?_;refine t0 ?_;intro U Y O C;refine(aw _).qs ch ?_;intro U Y O C;refine(bf _).mono ?_;rintro d HR ⟨b1,b2,m1,m2,rfl,d2,d3,cq,cv,hrel,a9⟩;obtain⟨RD,ap⟩:=oX (fJ b.rg.length b1 b2);rw[<-ap];refine t0 ?_;intro U Y O C;intro v a4;refine Y _ ?_;refine t0 ?_;intro U Y O C;refine(a6 _).mono ?_;rintro d _ ⟨V,bo,hV,rfl,rfl⟩;have bk:=gA a9 a4;obtain⟨GM,X⟩:=oX ((my n).map λp=>[D.seq 1 ((dL (Lp V p)).map iD)]);rw[<-X];have b9:GM.length=n:=by rw[X,aS,iw]
 refine tn b9 ?_;refine aO n (λi s=>RgS b n v RD GM i s/\∃S,RgI b HR v i S s.H) ⟨⟨rfl,rfl,rfl,rfl,rfl,rfl,rfl⟩,[],j5 (aF _) a4,aK _ _ _,λy=>by simp;omega,by simp⟩ ?_;rintro i s hi ⟨⟨m,u,E,w,k,f,g⟩,S,⟨t,B,T,cd⟩⟩;unfold cu at u;have hx:=aX i;have al:=aZ i;by_cases b4:i<n
 case neg=>
  have q1:=nF ((i:Int)<(n:Int));have c4:i=n:=by omega
  subst c4;refine Bn v (RH S) B λes R c8=>?_;obtain⟨Hh,M⟩:=oX (s.H.aU v (.obj (.map es R)));rw[<-M];have aa:H.le Hh:=by rw[M];exact aQ (iL a9 t) bk
  have b7:Hh v=some (.obj (.map es R)):=by rw[M,aK]
  clear M;refine tq (cA w f g q1) ?_;intro U Y O C;refine(SX v _).qt ?_;intro U Y O C;refine(MC aCd (O0 S v es R c8) S Hh (λH' h=>h _ _ b7) (λHc h=>h _ _ b7) (λl h=>by obtain⟨r,hr⟩:=h;have:=hr.length_eq;rw[aV] at this;omega) (λl h=>h) (by omega)).mono ?_;rintro d _ ⟨rfl,rfl⟩;refine ur aB trivial m ?_;refine⟨_,aF _,aa,_,aL aa,S,⟨by omega,λy=>?_⟩,rfl⟩;rw[T y,hn];exact⟨λh=>h.2,λh=>⟨Ot h,h⟩⟩
 have P:(i:Int)<(n:Int):=by omega
 have q1:((i:Int)<(n:Int))=True:=aG P;have w3:=wS i;obtain⟨L,hL⟩:=oX (dL (Lp V i));have c3:GM[i]?=some [.seq 1 (L.map iD)]:=by
  have:=qo (λp=>[D.seq 1 ((dL (Lp V p)).map iD)]) (n:=n) (x:=(i:Int)) al P;rw[hx] at this;rw[X,hL];exact this
 have am:∀x,x∈L↔zU b i x:=λx=>by rw[hL,sx,xJ,hV]
 have bi:∀x∈L,bN b.lc.length x:=λx h=>ok.lin i x ((am x).1 h);have d1:L.length<=10000:=by
  have F:=ju (M6 bo i) (n:=b.lc.length) λx hx=>ok.lin i x ((hV (i,x)).1 (xJ.1 hx));have z:=ok.Xp;rw[hL,dw];omega
 have ad:=lm iD L;clear hL;refine tq (bG k f g q1 c3 b9 hx (cA al b4 P ad)) ?_;intro U Y O C;refine Ie (λs=>RgS b n v RD GM i s/\s.fr 7=i64 i/\s.fr 9=.seq 1 ((QV b L).map iD)/\HR.le s.H/\s.H v=some (.map (yO S))) ?_ ?_
 ·refine aO L.length (λj s=>RgS b n v RD GM i s/\s.fr 7=i64 i/\s.fr 37=.seq 1 (L.map iD)/\s.fr 38=i64 L.length/\s.fr 39=i64 j/\HR.le s.H/\s.H v=some (.map (yO S))/\∃ob,Gl HR 3 1 ((QV b (L.take j)).map iD) (s.fr 9) s.H ob/\ob≠some v) ⟨⟨m,u,E,w,k,f,g⟩,rfl,rfl,rfl,rfl,t,B,none,eB _ _ _ _,by simp⟩ ?_
  clear B t g f k w E u m;clear s;rintro j s hj ⟨⟨m,u,E,w,k,f,g⟩,N,ae,Z,a0,t,B,ob,hg,b6⟩;unfold cu at u;have a7:=aX j;have a2:=aZ j;by_cases q:j<L.length
  case neg=>
   have q2:=lF j L.length;rw[bK (by omega)] at hg;refine RL 9 t hg λH' bm c9=>?_;have c7:=c9 _ _ B b6;refine tq (bQ Z a0 q2) ?_;intro U Y O C;exact Ya ⟨⟨m,u,E,w,k,f,g⟩,N,rfl,bm,c7⟩
  have q2:=lT j L.length;have w4:=wS j;have G:=bT q;have I:=QW (b:=b) q;have w9:=KE b (L.take j);have d5:(L.take j).length<=10000:=by rw[bX];omega
  obtain⟨x0,x1⟩:=bi L[j] (ao _);obtain⟨x,ci⟩:=oX L[j];rw[<-ci] at G I x0 x1;have c5:=lm eQ b.lc;have ba:x.toNat<b.lc.length:=by omega
  have c0:(List.map eQ b.lc)[x.toNat]?=some [bC b.lc[x.toNat].nm,i64 (KA b x)]:=by
   rw[bg,az ba];unfold KA;rw[az ba];rfl
  have ct:=GI b.ty (KA b x);have be:∀H1,cP prog 167 [.seq 5 (b.ty.map bS),i64 (KA b x)] H1 λd A=>A=aA.none/\d=.seq 1 ((xR b.ty (KA b x)).map iD):=λH1=>an λbb co=>UL b.ty (KA b x) bb ok.wt ok.rb ok.tl ok.ar;obtain⟨d9,b0⟩:=oX (s.fr 9);rw[<-b0] at hg;refine tq (bG ae Z a0 q2 G a7 a2 (av q ad)) ?_;intro U Y O C;refine wE (λ_=>false) (λ_=>false) (λ_ _ d A=>A=.none/\d=.seq 1 ((xR b.ty (KA b x)).map iD)) (λ_ _ _ _ _=>False) λU Y=>?_;have fs:=And.intro u (And.intro c0 (And.intro c5 (And.intro x0 x1)));refine uj ?_;refine nx ?_;(try clear fs);refine⟨be _,?_⟩;rw[<-b0];refine ax (e:=3) fk rfl fk rfl yv rfl (by decide) t hg (new:=(xR b.ty (KA b x)).map iD) (by exact⟨rfl,rfl⟩) (by rw[aS,aS];show(List.length (QV b (L.take j))+_) * 8<=_;omega) λd H6 cl b3 bc cc=>?_;have q3:=cc _ _ B b6;rw[<-bI,<-I] at b3;refine tn (av a0 w4) ?_;exact⟨q,⟨m,u,E,w,k,f,g⟩,N,ae,Z,rfl,bc,q3.1,cl,b3,q3.2⟩
 clear B t g f k w E u m;clear s;rintro s ⟨⟨m,u,E,w,k,f,g⟩,N,f9,t,B⟩;have w9:=KE b L;have ab:oc b.ol b1 b2 s.H:=by
  obtain⟨m1,m2,F,z,h3,h4⟩:=hrel;exact⟨m1,m2,t _ _ F,z,t _ _ h3,h4⟩
 obtain⟨o1,o2⟩:=wo ok.rel;have J:=Vz b.ol b.rg.length (QV b L) b1 b2 s.H ab o2 (by omega) (by omega) (by omega);rw[<-ap,aX] at J;have a5:=Vx b (p:=i) am ok.wt ok.rb;have br:=Ki b.ol b.rg.length (QV b L) b.rg.length;obtain⟨c,hC⟩:=oX (rO b.ol b.rg.length (QV b L) b.rg.length);rw[<-hC] at J a5 br;clear hC;have a8:=lm iD c;refine tq (av E f9) ?_;intro U Y O C;refine J.mono ?_;rintro d _ ⟨rfl,a3⟩;refine tn a8 ?_;refine aO c.length (λj s=>RgS b n v RD GM i s/\s.fr 7=i64 i/\s.fr 57=.seq 1 (c.map iD)/\s.fr 58=i64 c.length/\s.fr 59=i64 j/\HR.le s.H/\s.H v=some (.map (yO (vY i S (c.take j))))) ⟨⟨m,u,E,w,k,f,g⟩,N,rfl,rfl,rfl,a3▸t,by rw[gK];exact a3▸B⟩ ?_;clear B t g f k f9 N w E u m a3 J ab;clear s;rintro j s hj ⟨⟨m,u,E,w,k,f,g⟩,N,ag,a1,ak,t,B⟩;have a7:=aX j;have a2:=aZ j;by_cases q:j<c.length
 case neg=>
  have q2:=lF j c.length;rw[bK (by omega)] at B;have d4:=OO i c S;refine tq (cw g a1 ak q2 w3) ?_;intro U Y O C;refine⟨b4,⟨m,u,E,w,k,f,rfl⟩,vY i S c,t,B,λy=>?_,by rw[kH];omega⟩;rw[Fl,T y,a5 y.1];constructor
  ·rintro(⟨F,z⟩|⟨F,z⟩)
   ·exact⟨⟨F.1,by omega⟩,z⟩
   ·rw[F];exact⟨⟨by omega,by omega⟩,z⟩
  ·rintro⟨F,z⟩
   by_cases e:y.2=i
   ·rw[e] at z;exact .inr ⟨e,z⟩
   ·exact .inl ⟨⟨F.1,by omega⟩,z⟩
 have q2:=lT j c.length;have w4:=wS j;have G:=bT q;have I:=L6 (p:=i) (S:=S) q;have ac:∀r∈c,bN b.rg.length r:=λr hr=>Hg ((a5 r).1 hr);have bl:∀y∈vY i S (c.take j),du y.1/\du y.2:=λy hy=>by
  rw[Fl] at hy;have:bN b.rg.length y.1/\0<=y.2/\y.2<130:=by
   rcases hy with hy|⟨F,z⟩
   ·have h3:=(T y).1 hy
    exact⟨Hg h3.2,by omega,by omega⟩
   ·exact⟨ac _ (rC z),by omega,by omega⟩
  unfold bN at this;unfold du;omega
 have b8:=ac c[j] (ao _);obtain⟨r,ce⟩:=oX c[j];rw[<-ce] at G I b8;have b5:=Ey bl (x:=(r,(i:Int))) (by unfold bN at b8;unfold du;simp only;omega);have W:=I8 (vY i S (c.take j)) (r,(i:Int));rw[<-I] at W;simp only[pk] at b5 W;refine tn (bG w N ag a1 ak q2 G (bG a7 a2 q a8 B W b5 w4)) ?_;exact⟨q,⟨m,u,E,w,k,f,g⟩,N,ag,a1,rfl,aQ t a4,aK _ _ _⟩
structure Qs (b:bn):Prop where
 rg:VT b
 ln:Ys b
 ac:∀p x k,BW b p x k->YK x k/\cH (oq x k).1.pr.length
 ll:(pg b).length<=10000
 lp:∀l∈pg b,cH l.pl.pr.length
open Classical in
noncomputable def ER (P:Int->Int->Prop) (i:Int) (p:Nat):List (Int×Int):=((my p).filter λp=>decide (P i p)).map λp=>(i,p)
theorem Ai (P:Int->Int->Prop)(i n:Nat):qe (i+1) n P=qe i n P++ER P i n:=by
 unfold qe ER;rw[G9,gb];simp
open Classical in
theorem GC (P:Int->Int->Prop)(i:Int)(p:Nat):ER P i (p+1)=ER P i p++(if P i p then [(i,(p:Int))] else []):=by
 unfold ER;rw[G9,ly,bI];congr 1;by_cases h:P i p
 ·rw[aD h,tG (by simpa using h)];rfl
 ·rw[aC h,tH (by simpa using h)];rfl
theorem ES (P:Int->Int->Prop)(i:Int)(p:Nat):(ER P i p).length<=p:=by
 unfold ER;rw[aS];have:=kU (λp=>@decide (P i p) (Classical.propDecidable _)) (my p);rwa[iw] at this
theorem yt (P:Int->Int->Prop)(i n:Nat):(qe i n P).length<=i * n:=by
 induction i with
 |zero=>simp [qe,my]
 |succ i b=>
  rw[Ai,aV,kH]
  have:=ES P i n
  omega
def nH (b:bn) (i p:Int):Prop:=∃l,(pg b)[i.toNat]?=some l/\KR b p l
def oT (b:bn) (i p:Int):Prop:=∃l,(pg b)[i.toNat]?=some l/\KP b p l
theorem Wg (b:bn)(ok:Qs b)(p:Int)(l:pT)(hl:l∈pg b)(h0:0<=p)(hp:p<bu (fD b))(H:aA):∃B:Bool,(B=true↔KR b p l)/\aN prog 97 [.agg (cu b),i64 p,.agg (pF l)] H λd H'=>d=.val (.bool B)/\H=H':=by
 obtain⟨x,k,c⟩:=DD h0 hp;obtain⟨q,f⟩:=ok.ac p x k c;refine⟨Dr x k l,⟨λh=>⟨x,k,c,h⟩,λ⟨y,j,m,h⟩=>by obtain⟨rfl,rfl⟩:=c.uniq m;exact h⟩,?_⟩;obtain⟨i,g,e,rfl⟩:=c;exact S5 b p i k l H g e (by have:=ok.rg.lv.cn;omega) f (ok.lp l hl)
theorem W9 (b:bn)(ok:Qs b)(p:Int)(l:pT)(hl:l∈pg b)(h0:0<=p)(hp:p<bu (fD b))(H:aA):∃B:Bool,(B=true↔KP b p l)/\aN prog 98 [.agg (cu b),i64 p,.agg (pF l)] H λd H'=>d=.val (.bool B)/\H=H':=by
 obtain⟨x,k,c⟩:=DD h0 hp;obtain⟨f,q⟩:=ok.ac p x k c;refine⟨HY x k l,⟨λh=>⟨x,k,c,h⟩,λ⟨y,j,m,h⟩=>by obtain⟨rfl,rfl⟩:=c.uniq m;exact h⟩,?_⟩;obtain⟨i,g,e,rfl⟩:=c;exact SN b p i k l H g e (by have:=ok.rg.lv.cn;omega) f (ok.lp l hl)
structure ExS (b:bn) (c2 c6 n:Nat) (LN:List pT) (i:Nat) (s:St):Prop where
 df:s.df=[]
 f1:s.fr 1=.rp (cu b)
 f2:s.fr 2=.ep c2 0 5 0 0
 f6:s.fr 6=.ep c6 0 5 0 0
 f7:s.fr 7=i64 n
 f33:s.fr 33=.seq 5 (LN.map pF)
 f34:s.fr 34=i64 LN.length
 f35:s.fr 35=i64 i
structure Qr (H:aA) (c2 c6:Nat) (Z:cY) (x0 x1 x4:D) (K V:List (Int×Int)) (Hs:aA):Prop where
 le:H.le Hs
 z:Hs c2=some Z
 hp:∃dk dv ok ov,Hs c6=some (.row 101 0 5 [[x0,x1,dk,dv,x4]])/\Gl H 60 2 (K.map pD) dk Hs ok/\Gl H 60 2 (V.map pD) dv Hs ov/\(ok≠some c2/\ok≠some c6)/\(ov≠some c2/\ov≠some c6)/\∀c,ok=some c->ov≠some c
theorem Qr.ZT {Z:cY}{V x:List (Int×Int)}(u:H c6=none)(t:c2≠c6)(hz:Hs c2=some Z)(N:Hs c6=some (.row 101 0 5 [[x0,x1,dk,dv,x4]]))(A:Gl H 60 2 (V.map pD) dv Hs ov)(G:ok≠some c2/\ok≠some c6)(I:ov≠some c2/\ov≠some c6)(w:∀c,ok=some c->ov≠some c)
  {d:D}{k:aA}{f:Option Nat}(v:Gl H 60 2 (x.map pD) d k f) (s:H.le k) (i:∀b z,Hs b=some z->ok≠some b->k b=some z/\f≠some b):Qr H c2 c6 Z x0 x1 x4 x V (k.aU c6 (.row 101 0 5 [[x0,x1,d,dv,x4]])):=by
 have B:=i _ _ hz G.1;have E:=i _ _ N G.2;have F:∀c,ov=some c->k c=Hs c/\f≠some c:=λc q=>by
  rcases A with⟨g,_⟩|⟨P,o,m,_,_,y⟩
  ·rw[g] at q;cases q
  ·rw[q] at m;injection m with m;subst m
   have:=i _ _ y (λe=>w c e q);exact⟨this.1.trans y.symm,this.2⟩
 exact⟨aQ s u,(aJ t).trans B.1,d,dv,f,ov,aK _ _ _,v.cM λc h=>aJ λe=>E.2 (by rw[h,e]),A.cM λc h=>(aJ λe=>I.2 (by rw[h,e])).trans (F c h).1,⟨B.2,E.2⟩,I,λc J M=>(F c M).2 J⟩
theorem Qr.ZU {Z:cY}{x:List (Int×Int)}(u:H c6=none)(t:c2≠c6)(hz:Hs c2=some Z)(M:Hs c6=some (.row 101 0 5 [[x0,x1,dk,dv,x4]]))(A:Gl H 60 2 (K.map pD) dk Hs ok)(G:ok≠some c2/\ok≠some c6)(I:ov≠some c2/\ov≠some c6)(w:∀c,ok=some c->ov≠some c)
  {d:D}{k:aA}{f:Option Nat}(v:Gl H 60 2 (x.map pD) d k f) (s:H.le k) (i:∀b z,Hs b=some z->ov≠some b->k b=some z/\f≠some b):Qr H c2 c6 Z x0 x1 x4 K x (k.aU c6 (.row 101 0 5 [[x0,x1,dk,d,x4]])):=by
 have B:=i _ _ hz I.1;have E:=i _ _ M I.2;have F:∀c,ok=some c->k c=Hs c/\f≠some c:=λc q=>by
  rcases A with⟨g,_⟩|⟨N,o,m,_,_,y⟩
  ·rw[g] at q;cases q
  ·rw[q] at m;injection m with m;subst m
   have:=i _ _ y (w c q);exact⟨this.1.trans y.symm,this.2⟩
 exact⟨aQ s u,(aJ t).trans B.1,dk,d,ok,f,aK _ _ _,A.cM λc h=>(aJ λe=>G.2 (by rw[h,e])).trans (F c h).1,v.cM λc h=>aJ λe=>E.2 (by rw[h,e]),G,⟨B.2,E.2⟩,λc J=>(F c J).2⟩
theorem LW (b:bn)(H:aA)(ok:Qs b):aN prog 44 [.agg (cu b)] H λd H'=>∃S:List (Int×Int),(S.length<=1300000/\∀y,y∈S↔KS b y.1 y.2)/\d=.eO [.agg [.seq 5 ((pg b).map pF),.seq 2 ((oh (fD b)).map pD),.seq 2 ((qe (pg b).length (bu (fD b)) (nH b)).map pD),.seq 2 ((qe (pg b).length (bu (fD b)) (oT b)).map pD),.seq 2 ((en S).map pD)],i64 0]/\H=H':=by
 have b3:=ok.rg.ck;have b4:=ok.rg.lv.cn;have a8:=λu=>NL b ok.rg.lv u;have aa:=λu=>Ng b ok.rg.lv u;have ab:=λu=>Sg b u (by omega) ok.ln;have b8:=λu=>Sj b u ok.rg;refine gQ (aq (K:=λd=>∃S:List (Int×Int),(S.length<=1300000/\∀y,y∈S↔KS b y.1 y.2)/\d=.eO [.agg [.seq 5 ((pg b).map pF),.seq 2 ((oh (fD b)).map pD),.seq 2 ((qe (pg b).length (bu (fD b)) (nH b)).map pD),.seq 2 ((qe (pg b).length (bu (fD b)) (oT b)).map pD),.seq 2 ((en S).map pD)],i64 0]) ?_) (λd H' ⟨⟨S,M,h2⟩,h3⟩=>⟨S,M,h2,h3⟩);have am:=λp l hl h0 hp u=>Wg b ok p l hl h0 hp u;have al:=λp l hl h0 hp u=>W9 b ok p l hl h0 hp u;obtain⟨n,hn⟩:=oX (bu (fD b));rw[<-hn] at b4 a8 ⊢;have bs:=ok.ll;obtain⟨f,a5⟩:=oX (pg b);obtain⟨E,hE⟩:=oX (oh (fD b));rw[<-a5] at ab bs ⊢;rw[<-hE] at aa ⊢;unfold cu at b3 a8 aa ab b8 am al ⊢;refine dO func44 ntmps44 results44 λw0 g0 Q aB=>?_;refine t0 ?_;intro U Y O C;intro c1 b2 c2 a7;refine Y _ ?_;refine Yc 1 b2 a7 ?_;have ak:=(bF.1 a7).2;clear b2 a7;refine t0 ?_;intro U Y O C;refine(b3 _).qt ?_;intro U Y O C;refine(b8 _).mono ?_;rintro d _ ⟨S,hS,rfl,rfl⟩;obtain⟨LR,b0⟩:=oX ((en S).map pD);rw[<-b0];refine t0 ?_;intro U Y O C;have be:∀u,cP prog 94 [.agg [bC b.nm,.seq 1 (b.rg.map sD),.seq 2 (b.ol.map pD),.seq 5 (b.ty.map bS),.seq 2 (b.lc.map eQ),i64 b.ag,.seq 7 (b.bl.map dM)]] u λd A=>A=aA.none/\d=.seq 5 (f.map pF):=λu=>an λa1 bb=>ab a1;have bc:∀u,cP prog 95 [.agg [bC b.nm,.seq 1 (b.rg.map sD),.seq 2 (b.ol.map pD),.seq 5 (b.ty.map bS),.seq 2 (b.lc.map eQ),i64 b.ag,.seq 7 (b.bl.map dM)]] u λd A=>A=aA.none/\d=.seq 2 (E.map pD):=λu=>an λa1 bb=>aa a1;refine wE (λ_=>false) (λ_=>false) (λt _ d A=>A=.none/\d=(if t=some 25 then .seq 5 (f.map pF) else .seq 2 (E.map pD))) (λ_ _ _ _ _=>False) λU Y=>?_;have fs:=trivial;refine uj ?_;refine nx ?_;(try clear fs);refine⟨be _,bc _,λc6 bm=>?_⟩;refine Y _ ?_;obtain⟨ad,a3⟩:=bF.1 bm;have b6:=lm pF f;refine t0 ?_;intro U Y O C;refine(a8 _).qs b6 ?_;intro U Y O C;obtain⟨Z,hZ⟩:=oX (cY.row 101 0 5 [[.val (.slice none 0 0),.val (.slice none 0 0),.val (.slice none 0 0),.val (.slice none 0 0),.val (.slice none 0 0)]]);rw[<-hZ];refine aO f.length (λi s=>ExS b c2 c6 n f i s/\Qr H c2 c6 Z (.seq 5 (f.map pF)) (.seq 2 (E.map pD)) (.seq 2 LR) (qe i n (nH b)) (qe i n (oT b)) s.H) ⟨⟨rfl,rfl,rfl,rfl,rfl,rfl,rfl,rfl⟩,aQ (aQ (aF _) ak) a3,(aJ ad.symm).trans (aK _ _ _),_,_,none,none,aK _ _ _,eB _ _ _ _,eB _ _ _ _,by simp,by simp,by simp⟩ ?_;rintro i s hi ⟨⟨q,D,I,F,J,m,g,k⟩,W⟩;have hx:=aX i;have bk:=aZ i;by_cases X:i<f.length
 case neg=>
  have q1:=lF i f.length;have bq:i=f.length:=by omega
  subst bq;obtain⟨aM,hz,dk,dv,ok,ov,N,gk,gv,nk,nv,G⟩:=W;rw[hZ] at hz;refine ur aB (ej I F g k q1 N hz) (av q I) ?_;have x:H.le (s.H.aU c2 (.row 101 0 5 [[.seq 5 (f.map pF),.seq 2 (E.map pD),dk,dv,.seq 2 LR]])):=aQ aM ak;have bf:Gl H 60 2 ((qe f.length n (nH b)).map pD) dk (s.H.aU c2 (.row 101 0 5 [[.seq 5 (f.map pF),.seq 2 (E.map pD),dk,dv,.seq 2 LR]])) ok:=gk.cM λc h=>aJ λe=>nk.1 (by rw[h,e]);have bi:Gl H 60 2 ((qe f.length n (oT b)).map pD) dv (s.H.aU c2 (.row 101 0 5 [[.seq 5 (f.map pF),.seq 2 (E.map pD),dk,dv,.seq 2 LR]])) ov:=gv.cM λc h=>aJ λe=>nv.1 (by rw[h,e]);refine⟨_,aF _,x,.eO [.agg [.seq 5 (f.map pF),.seq 2 (E.map pD),.seq 2 ((qe f.length n (nH b)).map pD),.seq 2 ((qe f.length n (oT b)).map pD),.seq 2 LR],i64 0],lI ?_,S,hS,by rw[b0] <;> rfl⟩;refine⟨yd ?_,aL x,trivial⟩;exact⟨aL x,aL x,da x bf,da x bi,aL x,trivial⟩
 have ae:(i:Int)<(f.length:Int):=by omega
 have q1:((i:Int)<(f.length:Int))=True:=aG ae;have w3:=wS i;obtain⟨l,hl⟩:=oX f[i];have ap:l∈pg b:=by rw[<-a5,hl];exact ao _
 have a0:(pg b)[i]?=some l:=by rw[<-a5,hl];exact az X
 have bo:(List.map pF f)[i]?=some [i64 l.rg,i64 l.pt,.val (.bool l.mu),i64 l.pl.lo,.seq 2 (l.pl.pr.map pD)]:=by rw[hl];exact bZ X
 refine tq (bG J m g k q1 bo b6 (cA hx bk X ae)) ?_;intro U Y O C;intro b9 b1;refine Y _ ?_;refine cm 9 b1 ?_;have br:qe i n (nH b)=qe i n (nH b)++ER (nH b) i 0:=by simp [ER,my]
 have c0:qe i n (oT b)=qe i n (oT b)++ER (oT b) i 0:=by simp [ER,my]
 refine tn J ?_;refine aO n (λp s=>ExS b c2 c6 n f i s/\s.fr 8=i64 i/\s.fr 9=.rp [i64 l.rg,i64 l.pt,.val (.bool l.mu),i64 l.pl.lo,.seq 2 (l.pl.pr.map pD)]/\s.fr 40=i64 n/\s.fr 41=i64 p/\Qr H c2 c6 Z (.seq 5 (f.map pF)) (.seq 2 (E.map pD)) (.seq 2 LR) (qe i n (nH b)++ER (nH b) i p) (qe i n (oT b)++ER (oT b) i p) s.H) ⟨⟨q,D,I,F,J,m,g,k⟩,rfl,rfl,rfl,rfl,by rw[<-br,<-c0];exact W⟩ ?_;clear W k g m J F I D q b1;clear s;rintro p s hp ⟨⟨q,D,I,F,J,m,g,k⟩,f8,f9,v,w,W⟩;unfold cu at D;have cc:=aX p;have aw:=aZ p;by_cases b7:p<n
 case neg=>
  have q2:=nF ((p:Int)<(n:Int));have bt:p=n:=by omega
  subst bt;rw[<-Ai,<-Ai] at W;refine tn (cw k v w q2 w3) ?_;exact⟨X,⟨q,D,I,F,J,m,g,rfl⟩,W⟩
 have a4:(p:Int)<(n:Int):=by omega
 have q2:((p:Int)<(n:Int))=True:=aG a4;have w4:=wS p;(iterate 10 (refine tk (bQ v w q2) ?_;intro U Y O C));have b5:nH b i p↔KR b p l:=⟨λ⟨l',M,h2⟩=>by rw[hx,a0] at M;injection M with M;rw[M];exact h2,λh=>⟨l,by rw[hx];exact a0,h⟩⟩;have ba:oT b i p↔KP b p l:=⟨λ⟨l',M,h2⟩=>by rw[hx,a0] at M;injection M with M;rw[M];exact h2,λh=>⟨l,by rw[hx];exact a0,h⟩⟩;have c7:=yt (nH b) i n;have c5:=ES (nH b) i p;have c9:=yt (oT b) i n;have c8:=ES (oT b) i p;have c4:i * n<=10000 * 130:=kD (by omega) b4;have R:=GC (nH b) i p;have V:=GC (oT b) i p;refine nR (λs=>ExS b c2 c6 n f i s/\s.fr 8=i64 i/\s.fr 9=.rp [i64 l.rg,i64 l.pt,.val (.bool l.mu),i64 l.pl.lo,.seq 2 (l.pl.pr.map pD)]/\s.fr 40=i64 n/\s.fr 41=i64 p/\s.fr 10=i64 p/\Qr H c2 c6 Z (.seq 5 (f.map pF)) (.seq 2 (E.map pD)) (.seq 2 LR) (qe i n (nH b)++ER (nH b) i (p+1)) (qe i n (oT b)++ER (oT b) i p) s.H) ?_ ?_
 ·obtain⟨B,hB,hd⟩:=am p l ap aw (by rw[<-hn];exact a4) s.H
  unfold pF at hd;obtain⟨aM,hz,dk,dv,ok,ov,N,gk,gv,nk,nv,G⟩:=W;refine tq (av D f9) ?_;intro U Y O C;refine hd.mono ?_;rintro d _ ⟨rfl,P⟩;cases B
  ·rw[aC (λh=>by have:=hB.2 (b5.1 h);cases this),bz] at R
   refine tz ?_;exact⟨⟨q,D,I,F,J,m,g,k⟩,f8,f9,v,w,rfl,by rw[R];exact P▸⟨aM,hz,dk,dv,ok,ov,N,gk,gv,nk,nv,G⟩⟩
  ·rw[aD (b5.2 (hB.1 rfl))] at R
   rw[<-P];refine tq (bQ F f8 N) ?_;intro U Y O C;have ac:((qe i n (nH b)++ER (nH b) i (p+1)).map pD)=(qe i n (nH b)++ER (nH b) i p).map pD++[pD ((i:Int),(p:Int))]:=by rw[R];simp only[bI,cC,fw,bE]
   refine ax (e:=60) qm rfl qm rfl Bi rfl (by decide) aM gk (new:=[pD ((i:Int),(p:Int))]) (by exact⟨rfl,rfl⟩) (by rw[aS,aV];show(_+1) * 16<=_;omega) λd H6 c3 z a2 T=>?_;rw[<-ac] at z;have a6:=Qr.ZT a3 (Ne.symm ad) hz N gv nk nv G z a2 T;have k6:=(T _ _ N nk.2).1;have a9:∃c o n,d=.os c o 2 0 n:=by
    rcases z with⟨_,_,h⟩|⟨c,o,_,h,_⟩
    ·simp [R] at h
    ·exact⟨c,o,_,h⟩
   obtain⟨c',o',n',rfl⟩:=a9;refine eV k6 ?_;refine nx ?_;exact⟨⟨q,D,I,F,J,m,g,k⟩,f8,f9,v,w,rfl,a6⟩
 clear W w v f9 f8 k g m J F I D q;rintro s ⟨⟨q,D,I,F,J,m,g,k⟩,f8,f9,v,w,ar,W⟩;unfold cu at D;obtain⟨B,hB,hd⟩:=al p l ap aw (by rw[<-hn];exact a4) s.H;unfold pF at hd;obtain⟨aM,hz,dk,dv,ok,ov,N,gk,gv,nk,nv,G⟩:=W;refine tq (bQ D f9 ar) ?_;intro U Y O C;refine hd.mono ?_;rintro d _ ⟨rfl,P⟩;cases B
 ·rw[aC (λh=>by have:=hB.2 (ba.1 h);cases this),bz] at V
  refine tn (av w w4) ?_;exact⟨b7,⟨q,D,I,F,J,m,g,k⟩,f8,f9,v,rfl,by rw[V];exact P▸⟨aM,hz,dk,dv,ok,ov,N,gk,gv,nk,nv,G⟩⟩
 ·rw[aD (ba.2 (hB.1 rfl))] at V
  rw[<-P];refine tq (cA F f8 ar N) ?_;intro U Y O C;have ac:((qe i n (oT b)++ER (oT b) i (p+1)).map pD)=(qe i n (oT b)++ER (oT b) i p).map pD++[pD ((i:Int),(p:Int))]:=by rw[V];simp only[bI,cC,fw,bE]
  refine ax (e:=60) qm rfl qm rfl Bi rfl (by decide) aM gv (new:=[pD ((i:Int),(p:Int))]) (by exact⟨rfl,rfl⟩) (by rw[aS,aV];show(_+1) * 16<=_;omega) λd H6 c3 z a2 T=>?_;rw[<-ac] at z;have a6:=Qr.ZU a3 (Ne.symm ad) hz N gk nk nv G z a2 T;have k6:=(T _ _ N nv.2).1;have a9:∃c o n,d=.os c o 2 0 n:=by
   rcases z with⟨_,_,h⟩|⟨c,o,_,h,_⟩
   ·simp [V] at h
   ·exact⟨c,o,_,h⟩
  obtain⟨c',o',n',rfl⟩:=a9;refine eV k6 ?_;refine nx ?_;refine tn (av w w4) ?_;exact⟨b7,⟨q,D,I,F,J,m,g,k⟩,f8,f9,v,rfl,a6⟩
end Go.Proofs.YtffgfafbffdgaaaGreatDoor
