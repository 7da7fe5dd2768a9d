/- Lemmas and contracts of functions, several texts in one. -/
import Derived.Test.YtffgfafbffdgaaaGreatDoorR28
set_option maxRecDepth 100000
set_option maxHeartbeats 4000000
set_option linter.all false
namespace Go.Proofs.YtffgfafbffdgaaaGreatDoor
open Go.RowKit
open Tryz
variable {K l:List (Int×Int)}{L S o:List Int}{n p a r:Int}{H Hs:aA}{j c2 c6:Nat}{x0 x1 x4 dk dv:D}{ok ov:Option Nat}
theorem aCc:Qq 185:=⟨jH func185 rfl rfl,Vu⟩
def ScL (b:List pT) (E K L:List (Int×Int)) (y:Int×Int):Prop:=∃l,0<=y.1/\b[y.1.toNat]?=some l/\KV (Gg E K L y.1 l.rg) l.pt y.2
structure Xi (LN:List pT) (E K L:List (Int×Int)) (n i:Nat) (S:List (Int×Int)):Prop where
 nd:S.Nodup
 mem:∀y,y∈S↔y.1<i/\ScL LN E K L y
 len:S.length<=i * n
theorem Xi.step {LN:List pT}{E L:List (Int×Int)}{n i:Nat}{S B:List (Int×Int)}{dn:List Int}(h:Xi LN E K L n i S)(hi:i<LN.length)(hB:M5 (Gg E K L i LN[i].rg) LN[i].pt B [])(hl:B.length<=n)(hp:dn.Perm (nO B)):Xi LN E K L n (i+1) (S++dn.map λq=>((i:Int),q)) where
 nd:=mW.2 ⟨h.nd,by
  refine List.Pairwise.map _ (λa b hab e=>hab ?_) (hp.nodup_iff.2 hB.b.nd);injection e,λx hx y hy e=>by
  obtain⟨q,_,rfl⟩:=cD.1 hy;have:=((h.mem x).1 hx).1;rw[e] at this;simp only at this;omega⟩
 mem:=λy=>by
  rw[bB,h.mem y];constructor
  ·rintro(⟨h1,h2⟩|h1)
   ·exact⟨by omega,h2⟩
   ·obtain⟨q,hq,rfl⟩:=cD.1 h1
    refine⟨by simp only;omega,LN[i],by simp,by simp only[aX];exact az hi,?_⟩;exact hB.fin.1 (hp.mem_iff.1 hq)
  ·rintro⟨h1,h2⟩
   by_cases e:y.1=i
   ·obtain⟨l,h3,h4,h5⟩:=id h2
    rw[e,aX,az hi] at h4;injection h4 with h4
    subst h4;rw[e] at h5;exact .inr (cD.2 ⟨y.2,hp.mem_iff.2 (hB.fin.2 h5),mc e.symm rfl⟩)
   ·exact .inl ⟨by omega,h2⟩
 len:=by
  have h1:=h.len;have h2:=hp.length_eq;unfold nO at h2;rw[aS] at h2;rw[aV,aS,kH];omega
theorem W8 (f:List pT)(E K V L:List (Int×Int))(n:Nat)(H:aA)(hn:n<=300)(bf:f.length<=10000)(hK:cH K.length)(hV:cH V.length)(hL:cH L.length)(hE:E.length<=1000000)(b0:∀y∈K,du y.1/\du y.2)(c3:∀y∈V,du y.1/\du y.2)(b5:∀y∈L,du y.1/\du y.2)(eR:∀y∈E,bN n y.1/\bN n y.2)(rR:∀l∈f,du l.rg/\bN n l.pt):
  aN prog 101 [.agg (Uh f E K V L)] H λd H'=>∃S ob,Xi f E K L n f.length S/\Gl H 60 2 ((en S).map pD) d H' ob/\H.le H':=by
 have bb:∀y∈E,du y.1/\du y.2:=λy hy=>by have:=eR y hy;unfold bN at this;unfold du;omega
 have am:=λg=>Uq f E K V L g hK hV hL hE b0 c3 b5 bb;have w:=λb1 b2 b3 b4 m1 i hi g rV u=>Tv f E K V L b1 b2 b3 b4 m1 i n hi g rV hn hE b0 b5 eR (by unfold du;omega) (rR _ (ao hi)).1 (rR _ (ao hi)).2 u;have br:=lm pF f;unfold Uh at am ⊢;refine dO func101 ntmps101 results101 λw0 g0 Q aB=>?_;refine t0 ?_;intro U Y O C;intro c1 bl;refine Y _ ?_;refine cm 1 bl ?_;refine t0 ?_;intro U Y O C;refine(am _).mono ?_;rintro d g ⟨b1,b2,b3,b4,m1,rfl,a9,rV,u⟩;have w:=λi hi g u=>w b1 b2 b3 b4 m1 i hi g rV u;obtain⟨X,hX⟩:=oX (JP f E K V L b1 b2 b3 b4);rw[<-hX] at w ⊢;have c5:D.cells X=some [X]:=by rw[hX];rfl
 refine tn br ?_;refine aO f.length (λi s=>s.df=[]/\s.fr 4=X/\s.fr 11=i64 f.length/\s.fr 12=i64 i/\g.le s.H/\∃S ob,Xi f E K L n i S/\Gl g 60 2 (S.map pD) (s.fr 3) s.H ob) ⟨rfl,rfl,rfl,rfl,aF _,[],none,⟨List.nodup_nil,λy=>by simp [ScL];omega,by simp⟩,eB _ _ _ _⟩ ?_;rintro i s hi ⟨v,f4,m,t,A,S,ob,hS,hg⟩;have hx:=aX i;have c4:=aZ i;by_cases a4:i<f.length
 case neg=>
  have q1:=lF i f.length;have bq:i=f.length:=by omega
  subst bq;have bk:=hS.len;have b7:f.length * n<=10000 * 300:=kD bf hn;have aa:H.le s.H:=iL a9 A;rcases hg with⟨_,N,e2⟩|⟨c,o,e0,N,e2,e3⟩
  ·have bt:S=[]:=by simpa using e2
   subst bt;refine tq (cA m t q1 N) ?_;intro U Y O C;refine(Cg _).q ?_;refine ur aB N (av v N) ?_;exact⟨_,aF _,[],none,hS,.inl ⟨rfl,rfl,by simp [en]⟩,aa⟩
  ·rw[aS] at N
   refine tq (cA m t q1 N) ?_;intro U Y O C;refine(Ch aCc e3 (by omega)).mono ?_;rintro d _ ⟨rfl,rfl⟩;refine ur aB N (av v N) ?_;have ae:=gA a9 e2;exact⟨_,aF _,S,some c,hS,.inr ⟨c,o,rfl,by rw[aS,jV],ae,aK _ _ _⟩,aQ aa ae⟩
 have q1:=lT i f.length;have w3:=wS i;have ac:U3 E K V L b1 b2 b3 b4 m1 s.H:=⟨A _ _ u.m1,A _ _ u.m2,A _ _ u.m3,A _ _ u.m4⟩;have w:=w i a4 s.H ac;refine tq (cA f4 m t q1) ?_;intro U Y O C;refine w.mono ?_;rintro d H2 ⟨bm,B,rfl,a3,a1,I,al⟩;refine t0 ?_;intro U Y O C;refine zX (U5 B) rfl (show(18:Nat)<33 by decide) underlying271 rfl al ?_;intro r H3 M c8 hR J;replace M:H2 r=none:=M;replace J:∀c,c≠bm->c≠r->H3 c=H2 c:=J;have b8:g bm=none:=gA A a3;have ar:g r=none:=gA (iL A I) M;have ab:g.le H3:=λb x hb=>by
  rw[J b (λe=>by rw[e,b8] at hb;cases hb) (λe=>by rw[e,ar] at hb;cases hb)];exact I _ _ (A _ _ hb)
 have bc:B.length<=n:=a1.b.len λe he=>(eR e he).2;have ba:∀q∈nO B,bN n q:=λq hq=>by obtain⟨p,hp⟩:=a1.b.in hq;exact(eR _ hp).2
 have MU:Gl g 60 2 (S.map pD) (s.fr 3) H3 ob:=hg.cM λc G=>by
  rcases hg with⟨h,_⟩|⟨c',o,T,h2,h3,P⟩
  ·rw[h] at G;cases G
  ·rw[G] at T;injection T with T;subst T
   rw[J c (λe=>by rw[e,a3] at P;cases P) (λe=>by rw[e] at P;have:=I _ _ P;rw[M] at this;cases this)];exact(I _ _ P).trans P.symm
 refine Y _ ?_;refine t0 ?_;intro U Y O C;refine jz (λk s=>∃(z dn:List (Int×Int)) (ob:Option Nat),k=z.length/\s.df=[]/\s.fr 4=X/\s.fr 11=i64 f.length/\s.fr 12=i64 i/\s.fr 5=i64 i/\s.fr 18=.val (.pointer (some ⟨r,0,none⟩))/\B0 s.H bm r (U5 z)/\g.le s.H/\(dn++z).Perm B/\Gl g 60 2 ((S++(nO dn).map λq=>((i:Int),q)).map pD) (s.fr 3) s.H ob) B.length ⟨B,[],ob,rfl,v,f4,m,t,rfl,rfl,hR,ab,List.Perm.refl _,(by show Gl g _ 2 ((S++(nO []).map _).map pD) (s.fr 3) H3 ob;simpa [nO] using MU)⟩ ?_;clear MU ab hR J M al I a3 w ac hg A t m f4 v;clear s ob;rintro k s ⟨z,dn,ob,rfl,v,f4,m,t,f5,R,hR,A,hp,hg⟩;refine tq R ?_;intro U Y O C;refine uw rfl (show(19:Nat)<33 by decide) R hR (λa7=>?_) (λl1 p l2 H7 a7 bi be a5=>?_)
 ·have bs:z=[]:=by
   cases z with
   |nil=>rfl
   |cons a l=>cases a7
  subst bs
  rw[bz] at hp
  refine eV trivial ?_;refine nx ?_
  refine tn (av t w3) ?_
  exact⟨a4,v,f4,m,rfl,A,_,ob,hS.step a4 a1 bc (hp.map _),hg⟩
 ·obtain⟨t1,c9,N,e2,e3⟩:=wH.1 a7
  obtain⟨b,t2,e4,e5,e6⟩:=wL.1 e3;subst N e4 e2 e6 e5;have a6:((dn++[b])++(t1++t2)).Perm B:=by
   refine List.Perm.trans ?_ hp;rw[bE];exact zF _ (zQ (l₁:=t1) (l₂:=t2) (a:=b)).symm
  have a2:B0 H7 bm r (U5 (t1++t2)):=by
   have:U5 (t1++t2)=U5 t1++U5 t2:=bI;rw[this];exact bi
  obtain⟨y7,Z⟩:=a2.obj;obtain⟨z7,a8⟩:=a2.map;have b9:g.le H7:=λc x G=>by rw[a5 c (λe=>by rw[e,ar] at G;cases G)];exact A _ _ G
  have a0:∀c o,H7 c=some (.obj o)->ob≠some c:=λc o G e=>by
   rcases hg with⟨h,_⟩|⟨c',o',T,h2,h3,P⟩
   ·rw[h] at e;cases e
   ·rw[e] at T;injection T with T;subst T
    by_cases ad:c=r
    ·obtain⟨y,hy⟩:=hR.obj
     rw[ad,hy] at P;cases P
    ·rw[a5 c ad,P] at G;cases G
  have ak:Gl g 60 2 ((S++(nO dn).map λq=>((i:Int),q)).map pD) (s.fr 3) H7 ob:=hg.cM λc G=>a5 c λe=>a0 r y7 Z (by rw[G,e]);have c7:=ba b.1 (qZ.2 ⟨b.2,a6.mem_iff.1 (by simp)⟩);have bo:=a6.length_eq;have bk:=hS.len;have b7:i * n<=10000 * 300:=kD (by omega) hn;simp only[aV,eE] at bo;refine eV trivial ?_;refine nx ?_;refine t0 ?_;intro U Y O C;refine rj rfl (show(21:Nat)<33 by decide) (by exact R) be ?_;obtain⟨x3,aw⟩:=oX (s.fr 3);rw[<-aw] at ak;refine eV f5 ?_;refine nx ?_;refine tq f5 ?_;intro U Y O C;rw[<-aw];refine ax (e:=60) qm rfl qm rfl Bi rfl (by decide) b9 ak (new:=[pD ((i:Int),b.1)]) (by exact⟨rfl,rfl⟩) (by simp only[aS,aV,nO,eE];omega) λd H6 c0 ag b6 ap=>?_;have k1:=ap _ _ a8 (a0 _ _ a8);have k2:=ap _ _ Z (a0 _ _ Z);have e:(S++(nO (dn++[b])).map λq=>((i:Int),q)).map pD=(S++(nO dn).map λq=>((i:Int),q)).map pD++[pD ((i:Int),b.1)]:=by simp [nO]
  rw[<-e] at ag;refine tz ?_;exact⟨_,by show(t1++t2).length<(t1++b::t2).length;rw[aV,aV,bx];omega,t1++t2,dn++[b],c0,rfl,v,f4,m,t,f5,R,a2.cM (k1.1.trans a8.symm) (k2.1.trans Z.symm),b6,a6,ag⟩
def YD (g:FuncId) (c:List D) (p:Int×Int->Bool) (l:List (Int×Int)) (P:aA->Prop):Prop:=∀y∈l,∀H,P H->aN prog g (.agg [i64 y.1,i64 y.2]::c) H λd b=>d=.val (.bool (p y))/\H=b
theorem W5 {g:FuncId}{w:List D}{p:Int×Int->Bool}{P:aA->Prop}{b o:Nat}{T:TypeId}(hg:YD g w p l P)(V:P H)(hb:H b=some (.row T o 2 (l.map pD)))(hl:l.length<=1000000000):
  aN prog 182 [.os b o 2 0 l.length,.fn g w] H λd H'=>∃r:Int,d=i64 r/\H=H'/\((r= -1/\∀y∈l,p y=false)\/∃(j:Nat) (h:j<l.length),r=j/\p l[j]=true/\∀y∈l.take j,p y=false):=by
 have Z:=lm pD l;refine dO func182 ntmps182 results182 λw0 g0 Q I=>?_;refine tz ?_;refine aO l.length (λi s=>s.df=[]/\s.fr 0=.os b o 2 0 l.length/\s.fr 1=.fn g w/\s.fr 7=i64 l.length/\s.fr 8=i64 i/\s.H=H/\∀y∈l.take i,p y=false) ⟨rfl,rfl,rfl,rfl,rfl,rfl,by simp⟩ ?_;rintro i s hi ⟨k,J,M,x,A,t,e⟩;have hx:=aX i;have B:=aZ i;by_cases c:i<l.length
 case neg=>
  have G:=lF i l.length;rw[bK (by omega)] at e;refine ur I (bQ x A G) k ?_;exact⟨_,aF _,-1,rfl,t.symm,.inl ⟨rfl,e⟩⟩
 have m:(i:Int)<(l.length:Int):=by omega
 have G:((i:Int)<(l.length:Int))=True:=aG m;have w3:=wS i;have u:=il c;have v:l.take (i+1)=l.take i++[l[i]]:=bw c;have f:=hg l[i] (ao _) H V;obtain⟨y,N⟩:=oX l[i];rw[<-N] at u v f;have E:s.H b=some (.row T o 2 (l.map pD)):=by rw[t];exact hb
 rw[<-t] at f;refine tq (bG J M x A G E u (cA hx B c m)) ?_;intro U Y O C;refine f.q ?_;cases hp:p y with
 |true=>
  refine ur I trivial k ?_
  exact⟨_,aF _,i,rfl,t.symm,.inr ⟨i,c,rfl,by rw[<-N];exact hp,e⟩⟩
 |false=>
  refine tn (av A w3) ?_
  exact⟨c,k,J,M,x,rfl,t,λz R=>by
   rw[v] at R;rcases bB.1 R with h|h
   ·exact e z h
   ·rw[bM.1 h];exact hp⟩
def tW (p:Int×Int->Bool) (l:List (Int×Int)):List (Int×Int):=l.filter λy=> !p y
theorem WG {g:FuncId}{bc:List D}{p:Int×Int->Bool}{P:aA->Prop}{b o:Nat}{T:TypeId}(hg:YD g bc p l P)(hP:∀els,P (H.aU b (.row T o 2 els)))(hb:H b=some (.row T o 2 (l.map pD)))(hl:l.length<=1000000000):
  aN prog 100 [.os b o 2 0 l.length,.fn g bc] H λd H'=>d=.os b o 2 0 (tW p l).length/\H'=H.aU b (.row T o 2 ((tW p l).map pD)):=by
 have a4:P H:=by have:=hP (l.map pD);rwa[lX hb] at this
 have a7:=W5 hg a4 hb hl;refine dO func100 ntmps100 results100 λw0 g0 Q aB=>?_;refine t0 ?_;intro U Y O C;refine a7.mono ?_;rintro d _ ⟨r,rfl,rfl,hr⟩;rcases hr with⟨rfl,t⟩|⟨v,a8,rfl,a9,t⟩
 ·have e:tW p l=l:=zI.2 λy Z=>by rw[t y Z];rfl
  refine u0 aB ?_;exact⟨_,aF _,by rw[e],by rw[e,lX hb]⟩
 have q0:=nF ((v:Int)= -1);have w0:=wS v;refine tq (av q0 w0) ?_;intro U Y O C;have N:tW p (l.take (v+1))=l.take v:=by
  unfold tW;rw[bw a8,ly,zI.2 λy Z=>by rw[t y Z];rfl];simp [a9]
 refine jz (λk s=>∃(j i:Nat) (L:List (Int×Int)),k=l.length - j/\j<=l.length/\s.df=[]/\s.fr 0=.os b o 2 0 l.length/\s.fr 1=.fn g bc/\s.fr 5=i64 i/\s.fr 6=i64 j/\s.H=H.aU b (.row T o 2 (L.map pD))/\L.length=l.length/\i<j/\i=(tW p (l.take j)).length/\L.take i=tW p (l.take j)/\L.drop j=l.drop j) (l.length - (v+1)) ⟨v+1,v,l,rfl,by omega,rfl,rfl,rfl,rfl,rfl,(lX hb).symm,rfl,by omega,by rw[N,bX];omega,by rw[N],rfl⟩ ?_;rintro k s ⟨j,i,L,rfl,ab,h,z,f1,f5,f6,B,M,aa,hi,ht,hd⟩;have hx:=aX j;have a3:=aZ j;have V:=aX i;have A:=aZ i;have c:s.H b=some (.row T o 2 (L.map pD)):=by rw[B,aK]
 have G:=lm pD L;by_cases m:j<l.length
 case neg=>
  have q1:=lF j l.length;have g1:(i:Int)<=(l.length:Int):=by omega
  have g2:i<=L.length:=by omega
  have e9:l.take j=l:=bK (by omega);rw[e9] at hi ht;refine ur aB (bG z f5 f6 q1 g1 g2 c (bQ V A G)) h ?_;exact⟨_,aF _,by rw[hi,tP],by rw[<-iK,ht,B,iv]⟩
 have w:(j:Int)<(l.length:Int):=by omega
 have q1:((j:Int)<(l.length:Int))=True:=aG w;have w3:=wS j;have w4:=wS i;have u:l.take (j+1)=l.take j++[l[j]]:=bw m;have a6:L[j]?=some l[j]:=by
  have:=ai (·[0]?) hd;simp only[nn,rM,az m] at this;exact this
 have f:(L.map pD)[j]?=some (pD l[j]):=by rw[bg,a6];rfl
 have J:L.drop (j+1)=l.drop (j+1):=by rw[<-pP,hd,pP]
 have I:=hg l[j] (ao _);obtain⟨y,Z⟩:=oX l[j];rw[<-Z] at f u I;simp only[pD] at f;refine tq (bG z f6 q1 c f hx a3 (bQ m w G)) ?_;intro U Y O C;intro c7 a5;refine Y _ ?_;refine cm 7 a5 ?_;have a1:=I s.H (by rw[B];exact hP _);refine tq f1 ?_;intro U Y O C;refine a1.mono ?_;rintro d _ ⟨rfl,E⟩;cases hp:p y with
 |true=>
  have x:tW p (l.take (j+1))=tW p (l.take j):=by
   unfold tW;rw[u,ly,tH (by rw[hp];simp)];simp
  refine tn (av f6 w3) ?_
  exact⟨_,by show l.length - (j+1)<l.length - j;omega,j+1,i,L,rfl,by omega,h,z,f1,f5,rfl,E▸B,M,by omega,by rw[x];exact hi,by rw[x];exact ht,J⟩
 |false=>
  have x:tW p (l.take (j+1))=tW p (l.take j)++[y]:=by
   unfold tW;rw[u,ly,tG (by rw[hp];simp)];simp
  have R:i<L.length:=by omega
  have a0:(i:Int)<(l.length:Int):=by omega
  have a2:(L.map pD)[i]?=some [i64 L[i].1,i64 L[i].2]:=bZ R
  subst E
  refine tq (bG z f5 f6 w3 w4 c V (bQ A a0 a2)) ?_;intro U Y O C
  have e2:(L.map pD).set i [i64 y.1,i64 y.2]=(L.set i y).map pD:=(List.map_set ..).symm
  refine⟨_,by show l.length - (j+1)<l.length - j;omega,j+1,i+1,L.set i y,rfl,by omega,h,z,f1,rfl,rfl,?_,by rw[mA];exact M,by omega,by rw[x,aV,<-hi] <;> rfl,?_,?_⟩
  ·show s.H.aU b _=_
   rw[B,iv,<-e2];rfl
  ·rw[x,<-ht,bw (by rw[mA];exact R),List.getElem_set_self,zG (bh _)]
  ·rw[List.drop_set_of_lt (by omega)];exact J
noncomputable def rO (l:List (Int×Int)) (n:Int) (o:List Int) (i:Nat):List Int:=((List.range i).map (λk:Nat=>(k:Int))).filter λx=>o.any (gh l n x)
theorem Ki (l:List (Int×Int))(n:Int)(o:List Int)(i:Nat):(rO l n o i).length<=i:=by
 unfold rO;refine ma (kU _ _) ?_;rw[aS,tL];exact bh _
theorem TQ (t:bp)(H:aA):aN prog 312 [.agg (bS t)] H λd H'=>d=.seq 1 ((mD t).map iD)/\H=H':=by
 refine aq (K:=λd=>d=.seq 1 ((mD t).map iD)) ?_;obtain⟨b,s,u,m,k⟩:=t;simp only[bS,mD];have e:=aF H;refine dO func312 ntmps312 results312 λv i Q h=>?_;refine t0 ?_;intro U Y O C;intro c2 f;refine Y _ ?_;refine cm 1 f ?_;by_cases c:b=3
 ·have g:(b=3)=True:=aG c
  refine ur h g trivial ?_;exact⟨_,aF _,e,_,aL e,by rw[aD c] <;> rfl⟩
 ·have g:(b=3)=False:=aI c
  refine ur h g trivial ?_;exact zf e (by rw[aC c])
theorem XJ (ts:List bp)(i J:Nat)(hw:pI ts)(ba:ts.length<=1000000)(b3:∀t∈ts,t.ar.length<=140737488351232)(ak:i≠J):
  ∀(kk:Nat) (a:Int) (S:List Int) (H:aA),bN ts.length a->a<kk->H J=some (.row 146 0 1 [[.fn 311 [.rp [.val (.map (some i))],.rp [.seq 5 (ts.map bS)],.ep J 0 1 0 0]]])->H i=some (.map (SM S))->S.Nodup->(∀x∈S,bN ts.length x)->(∀k∈S,k<=a->∀b,BZ mD ts k b->b∈S)->
   aN prog 311 [i64 a,.rp [.val (.map (some i))],.rp [.seq 5 (ts.map bS)],.ep J 0 1 0 0] H λ_ H'=>∃u,H'=H.aU i (.map (SM u))/\u.Nodup/\(∀x∈u,bN ts.length x)/\∀x,x∈u↔x∈S\/BZ mD ts a x:=by
 intro kk
 induction kk using Nat.strongRecOn with
 |ind kk ih=>
  intro a S H G b8 b1 w a5 P a4
  have ae:=lm bS ts
  have am:BX a:=by unfold bN at G;unfold BX;omega
  have V:=U4 (by omega) P am
  refine dO func311 ntmps311 results311 λw0 g0 Q aB=>?_
  by_cases c:a∈S
  ·have E:=Mb c
   refine tq (av w E) ?_;intro U Y O C
   refine⟨V,?_⟩
   refine u0 aB ?_
   exact⟨_,aF _,S,(lX w).symm,a5,P,λx=>⟨.inl,λh=>h.elim id λh=>a4 a c (kJ _) x h⟩⟩
  have E:=Gs c
  have ag:=Cv c
  refine tq (av w E) ?_;intro U Y O C
  refine⟨V,?_⟩
  have T:=gY G
  have I:=λb=>BZ.iff (par:=mD) (ts:=ts) (a:=a) (b:=b)
  have R:=Dn.A hw a G
  have a0:(bY ts a).ar.length<=140737488351232:=b3 _ (ni G)
  have ac:(mD (bY ts a)).length<=140737488351232:=by unfold mD;split <;> first|exact a0|simp
  have z:=TQ (bY ts a)
  obtain⟨t,ht⟩:=oX (bY ts a)
  rw[<-ht] at T R a0 z ac
  simp only[<-ht] at I
  obtain⟨m,ab⟩:=oX (mD t)
  rw[<-ab] at R z ac
  simp only[<-ab] at I
  obtain⟨b7,tm,tr,te,ta⟩:=t
  simp only[bS] at T z
  have b0:0<=a:=G.1
  have b2:a.toNat<ts.length:=by unfold bN at G;omega
  have al:a<(ts.length:Int):=G.2
  have a2:=lm iD m
  refine tq (av w E) ?_;intro U Y O C
  refine⟨V,?_⟩
  rw[ag]
  refine tq (cw T b0 b2 al ae) ?_;intro U Y O C
  refine(z _).qs a2 ?_;intro U Y O C
  refine aO m.length (λj s=>s.df=[]/\s.fr 0=i64 a/\s.fr 1=.rp [.val (.map (some i))]/\s.fr 2=.rp [.seq 5 (ts.map bS)]/\s.fr 3=.ep J 0 1 0 0/\s.fr 16=.seq 1 (m.map iD)/\s.fr 17=i64 m.length/\s.fr 18=i64 j/\∃u,s.H=H.aU i (.map (SM u))/\u.Nodup/\(∀x∈u,bN ts.length x)/\∀x,x∈u↔x∈S\/x=a\/∃p∈m.take j,BZ mD ts p x) ⟨rfl,rfl,rfl,rfl,rfl,rfl,rfl,rfl,S++[a],rfl,?_,?_,?_⟩ ?_
  ·rw[mW]
   exact⟨a5,by simp,λx hx y hy e=>by rw[bM] at hy;subst hy;subst e;exact c hx⟩
  ·intro x hx
   rcases bB.1 hx with hx|hx
   ·exact P x hx
   ·rw[bM] at hx;rw[hx];exact G
  ·intro x
   rw[bB,bM]
   constructor
   ·rintro(h|h)
    ·exact .inl h
    ·exact .inr (.inl h)
   ·rintro(h|h|⟨p,Z,_⟩)
    ·exact .inl h
    ·exact .inr h
    ·simp at Z
  rintro j s hj ⟨a6,f0,f1,f2,f3,a3,M,N,S2,v,aa,a9,B⟩
  have ap:s.H i=some (.map (SM S2)):=by rw[v];exact aK _ _ _
  have a1:s.H J=some (.row 146 0 1 [[.fn 311 [.rp [.val (.map (some i))],.rp [.seq 5 (ts.map bS)],.ep J 0 1 0 0]]]):=by rw[v];exact(aJ ak.symm).trans b1
  have hx:=aX j
  have aw:=aZ j
  by_cases g:j<m.length
  case neg=>
   have q1:=lF j m.length;rw[bK (by omega)] at B;refine ur aB (bQ M N q1) a6 ?_;refine⟨_,aF _,S2,v,aa,a9,λx=>?_⟩;rw[B x,I x];constructor
   ·rintro(h|h|h)
    ·exact .inl h
    ·exact .inr (.inl h.symm)
    ·exact .inr (.inr h)
   ·rintro(h|h|h)
    ·exact .inl h
    ·exact .inr (.inl h.symm)
    ·exact .inr (.inr h)
  have q1:=lT j m.length
  have w3:=wS j
  have a8:=bT g
  have a7:=R m[j] (ao g)
  have ad:=bw g
  obtain⟨f,hf⟩:=oX m[j]
  rw[<-hf] at a8 a7 ad
  refine tq (bG f3 a3 M N q1 a8 hx (cA aw g a2 a1)) ?_;intro U Y O C
  refine(ih (kk - 1) (by omega) f S2 _ ⟨a7.1,by omega⟩ (by omega) a1 ap aa a9 ?_).mono ?_
  ·intro k hk b9 b hb
   rw[B] at hk ⊢
   rcases hk with hk|rfl|⟨p,Z,hk⟩
   ·exact .inl (a4 k hk (by omega) b hb)
   ·omega
   ·exact .inr (.inr ⟨p,Z,hk.trans hb⟩)
  rintro d _ ⟨S3,rfl,b6,b4,b5⟩
  refine tq (av N w3) ?_;intro U Y O C
  refine⟨g,a6,f0,f1,f2,f3,a3,M,rfl,S3,by show s.H.aU i _=_;rw[v];exact iv _ _ _ _,b6,b4,λx=>?_⟩
  rw[b5 x,B x,ad]
  simp only[bB,bM]
  constructor
  ·rintro((h|h|⟨p,Z,h⟩)|h)
   ·exact .inl h
   ·exact .inr (.inl h)
   ·exact .inr (.inr ⟨p,.inl Z,h⟩)
   ·exact .inr (.inr ⟨f,.inr rfl,h⟩)
  ·rintro(h|h|⟨p,Z|rfl,h⟩)
   ·exact .inl (.inl h)
   ·exact .inl (.inr (.inl h))
   ·exact .inl (.inr (.inr ⟨p,Z,h⟩))
   ·exact .inr h
theorem ZL (ts:List bp)(a:Int)(H:aA)(V:pI ts)(I:ts.length<=1000000)(B:∀t∈ts,t.ar.length<=140737488351232):
  aN prog 243 [.seq 5 (ts.map bS),i64 a] H λd H'=>∃c S,d=.val (.map (some c))/\H c=none/\H' c=some (.map (SM S))/\H.le H'/\S.Nodup/\(∀x∈S,bN ts.length x)/\∀x,x∈S↔bN ts.length a/\BZ mD ts a x:=by
 have g:=lm bS ts;have Z:=aF H;refine dO func243 ntmps243 results243 λw0 g0 Q w=>?_;refine t0 ?_;intro U Y O C;intro c2 G;refine Y _ ?_;refine cm 2 G ?_;refine tq g ?_;intro U Y O C;intro c b m E;have y:(H.aU c (.map [])) m=none:=E;refine Y _ ?_;refine dZ 5 rfl (aK _ _ _) rfl ?_;refine lB (H.aU c (.map [])) (λx z J=>?_) ?_
 ·have N:x≠m:=λe=>by rw[e,y] at J;cases J
  show(((H.aU c _).aU m _).del m) x=_;rw[bL N,aJ N];exact J
 simp only[St.ku,List.drop];refine t0 ?_;intro U Y O C;intro A k;(iterate 4 (refine tk trivial ?_;intro U Y O C));have f:c≠A:=lj (aK _ _ _) k;have i:H A=none:=(bF.1 k).2;by_cases s:0<=a
 case neg=>
  have v:(0<=a)=False:=aI s;refine ur w v trivial ?_;exact⟨_,aF _,c,[],rfl,b,(aJ f).trans (aK _ _ _),aQ (aQ (aF _) b) i,by simp,by simp,λx=>⟨λh=>(by cases h),λh=>absurd h.1.1 s⟩⟩
 have v:(0<=a)=True:=aG s;by_cases u:a<ts.length
 case neg=>
  have M:(a<(ts.length:Int))=False:=aI u;refine ur w (bQ v M g) trivial ?_;exact⟨_,aF _,c,[],rfl,b,(aJ f).trans (aK _ _ _),aQ (aQ (aF _) b) i,by simp,by simp,λx=>⟨λh=>(by cases h),λh=>absurd h.1.2 u⟩⟩
 have M:(a<(ts.length:Int))=True:=aG u;refine tq (bQ v M g) ?_;intro U Y O C;refine(XJ ts c A V I B f ts.length a [] _ ⟨by omega,by omega⟩ (by omega) (aK _ _ _) ((aJ f).trans (aK _ _ _)) (by simp) (by simp) (by simp)).mono ?_;rintro d _ ⟨S,rfl,T,P,R⟩;refine u0 w ?_;refine⟨_,aF _,c,S,rfl,b,aK _ _ _,aQ (aQ (aQ (aF _) b) i) b,T,P,λx=>?_⟩;rw[R x];exact⟨λh=>h.elim (λh=>by cases h) λh=>⟨⟨s,u⟩,h⟩,λh=>.inr h.2⟩
def rbd (ts:List bp) (n:Int):Prop:=∀t∈ts,t.k=3->0<=t.r/\t.r<n
theorem TY {ts:List bp}{out:List Int}(hb:rbd ts 1000000)(h:∀x,x∈S↔bN ts.length a/\BZ mD ts a x)(hi:∀x∈S,bN ts.length x)(ho:∀x,x∈out↔∃b∈S,(bY ts b).k=3/\(bY ts b).r=x):mC (dL out)=xR ts a:=by
 refine qK (xg (vr out)) (GJ ts a) λx=>?_;rw[vM,sx,ho,Al];constructor
 ·rintro⟨b,c,f,g⟩
  have e:=(h b).1 c;have:=hb _ (ni (hi b c)) f;exact⟨⟨by omega,by omega⟩,e.1,b,e.2,f,g⟩
 ·rintro⟨_,e,b,i,f,g⟩
  exact⟨b,(h b).2 ⟨e,i⟩,f,g⟩
theorem UL (ts:List bp)(a:Int)(H:aA)(hw:pI ts)(hb:rbd ts 1000000)(bc:ts.length<=1000000)(b6:∀t∈ts,t.ar.length<=140737488351232):
  aN prog 167 [.seq 5 (ts.map bS),i64 a] H λd H'=>d=.seq 1 ((xR ts a).map iD)/\H=H':=by
 refine aq (K:=λd=>d=.seq 1 ((xR ts a).map iD)) ?_;have w:=lm bS ts;refine dO func167 ntmps167 results167 λw0 g0 Q aB=>?_;refine t0 ?_;intro U Y O C;refine(ZL ts a H hw bc b6).mono ?_;rintro d H1 ⟨bm,S,rfl,b8,b1,a2,b5,V,b4⟩;refine t0 ?_;intro U Y O C;refine zX (SV S) rfl (show(10:Nat)<33 by decide) underlying338 rfl b1 ?_;intro r H2 ae bo b2 aw;have am:H.le H2:=λx z hz=>by
  have h1:=a2 x z hz;rw[aw x (λe=>by rw[e,b8] at hz;cases hz) (λe=>by rw[e] at h1;exact absurd (ae.symm.trans h1) (by simp))];exact h1
 have ap:H r=none:=by
  cases h:H r with
  |none=>rfl
  |some z=>exact absurd (ae.symm.trans (a2 r z h)) (by simp)
 refine Y _ ?_;refine t0 ?_;intro U Y O C;refine jz (λk s=>∃(f u out:List Int) (ob:Option Nat),k=f.length/\s.df=[]/\s.fr 0=.seq 5 (ts.map bS)/\s.fr 10=.val (.pointer (some ⟨r,0,none⟩))/\B0 s.H bm r (SV f)/\H.le s.H/\Gl H 3 1 (out.map iD) (s.fr 5) s.H ob/\ob≠some bm/\ob≠some r/\(∀x,x∈S↔x∈u\/x∈f)/\(∀x,x∈out↔∃b∈u,(bY ts b).k=3/\(bY ts b).r=x)/\out.length<=u.length/\u.length+f.length=S.length) S.length ⟨S,[],[],none,rfl,rfl,rfl,rfl,b2,am,eB _ _ _ _,by simp,by simp,by simp,by simp,by simp,by simp⟩ ?_;rintro n s ⟨f,u,out,ob,rfl,J,f0,i,hR,aM,hg,a6,N,aa,a4,OH,b9⟩;obtain⟨d5,I⟩:=oX (s.fr 5);rw[<-I] at hg;have bk:=ju b5 V;refine tq i ?_;intro U Y O C;refine uw rfl (show(11:Nat)<33 by decide) i hR (λZ=>?_) (λl1 p l2 H3 Z b3 a9 ab=>?_)
 ·have be:f=[]:=by
   cases f with
   |nil=>rfl
   |cons a l=>cases Z
  subst be
  have a1:=TY hb b4 V (out:=out) (λx=>by rw[a4];constructor <;> (rintro⟨b,h1,T⟩;exact⟨b,by have:=aa b;simp at this;first|exact this.2 h1|exact this.1 h1,T⟩))
  refine eV trivial ?_;refine nx ?_
  refine t0 ?_;intro U Y O C
  rw[I] at hg
  have a0:H.le s.H:=aM
  rcases hg with⟨_,M,e2⟩|⟨c,o,e0,M,e2,e3⟩
  ·have b0:out=[]:=by simpa using e2
   rw[M]
   refine(vt _).qs M ?_;intro U Y O C
   refine(xi _).q ?_
   refine ur aB trivial J ?_
   exact⟨_,aF _,a0,.seq 1 [],iq,by rw[<-a1,b0];simp [dL,mC]⟩
  ·have bi:out.length<=1000000:=by omega
   rw[aS] at M
   rw[M]
   refine(vu e3 (by omega)).mono ?_
   rintro d _ ⟨rfl,rfl⟩
   refine tq M ?_;intro U Y O C
   have h5:((s.H.aU c (.row 3 o 1 ((dL out).map iD))) c)=some (.row 3 o 1 ((dL out).map iD)):=aK _ _ _
   have h6:=xj h5 (by rw[dw];omega)
   rw[dw] at h6
   refine h6.mono ?_
   rintro d _ ⟨rfl,a8,rfl,a7⟩
   refine ur aB trivial J ?_
   have v:H.le (s.H.aU c (.row 3 o 1 (a8.map iD))):=aQ a0 e2
   have bl:(mC (dL out)).length<=a8.length:=by have:=ai List.length a7;rw[bX] at this;omega
   exact⟨_,aF _,v,_,nY (k:=0) v (aK _ _ _) e2 (by rw[aS];omega),by rw[dj,<-iK,a7,a1]⟩
 ·obtain⟨t1,bq,M,e2,e3⟩:=wH.1 Z
  obtain⟨b,t2,e4,e5,e6⟩:=wL.1 e3;subst M e4 e2 e6 e5;have P:∀x,x∈S↔x∈u++[b]\/x∈t1++t2:=λx=>by
   rw[aa x,bB,bB,bB,bV,bM];constructor
   ·rintro(h|h|h|h)
    ·exact .inl (.inl h)
    ·exact .inr (.inl h)
    ·exact .inl (.inr h)
    ·exact .inr (.inr h)
   ·rintro((h|h)|h|h)
    ·exact .inl h
    ·exact .inr (.inr (.inl h))
    ·exact .inr (.inl h)
    ·exact .inr (.inr (.inr h))
  have b7:b∈S:=(P b).2 (.inl (by simp));have G:=V b b7;have B:B0 H3 bm r (SV (t1++t2)):=by
   have:SV (t1++t2)=SV t1++SV t2:=bI;rw[this];exact b3
  have a5:H.le H3:=λx z hz=>(ab x (λe=>by rw[e,ap] at hz;cases hz)).trans (aM x z hz);have MU:Gl H 3 1 (out.map iD) d5 H3 ob:=hg.cM λc hc=>ab c λe=>N (by rw[hc,e]);have ac:u.length+1+(t1++t2).length=S.length:=by rw[<-b9,aV,aV,bx];omega
  have m:=gY G;have A:0<=b:=G.1;have E:b.toNat<ts.length:=by unfold bN at G;omega
  have y:b<(ts.length:Int):=G.2;obtain⟨t,ht⟩:=oX (bY ts b);have a3:∀(R:List Int),(∀x,x∈R↔x∈out\/(t.k=3/\t.r=x))->∀x,x∈R↔∃b'∈u++[b],(bY ts b').k=3/\(bY ts b').r=x:=λR h x=>by
   rw[h x,a4 x];constructor
   ·rintro(⟨b',h1,T⟩|h)
    ·exact⟨b',by simp [h1],T⟩
    ·exact⟨b,by simp,by rw[<-ht];exact h⟩
   ·rintro⟨b',h1,T⟩
    rcases bB.1 h1 with h1|h1
    ·exact .inl ⟨b',h1,T⟩
    ·rw[bM] at h1
     rw[h1,<-ht] at T;exact .inr T
  rw[<-ht] at m;obtain⟨g,tm,tr,te,ta⟩:=t;simp only[bS] at m;have bf:g=3\/g≠3:=by omega
  rcases bf with h3|h3
  ·have q3:(g=3)=True:=aG h3
   refine eV trivial ?_;refine nx ?_;refine t0 ?_;intro U Y O C;refine rj rfl (show(13:Nat)<33 by decide) (by exact i) a9 ?_;refine eV (ej f0 m A E y w q3) ?_;refine nx ?_;refine tq (ej f0 m A E y w q3) ?_;intro U Y O C;rw[I] at MU;refine ax (e:=3) fk rfl fk rfl yv rfl (by decide) a5 MU (new:=[iD tr]) (by exact⟨rfl,rfl⟩) (by rw[aS];show(_+1) * 8<=_;omega) λd H6 al ba v ad=>?_;have bb:Gl H 3 1 ((out++[tr]).map iD) d H6 al:=by rw[bI];exact ba
   obtain⟨zb,ag⟩:∃z,H3 bm=some z:=by obtain⟨_,_,_,_,_,h,_⟩:=B;exact⟨_,h⟩
   obtain⟨zr,ak⟩:∃z,H3 r=some z:=by obtain⟨_,_,_,_,_,_,h,_⟩:=B;exact⟨_,h⟩
   have k1:=ad bm zb ag a6;have k2:=ad r zr ak N;refine tz ?_;exact⟨_,by show(t1++t2).length<(t1++b::t2).length;rw[aV,aV,bx];omega,t1++t2,u++[b],out++[tr],al,rfl,J,f0,i,B.cM (k1.1.trans ag.symm) (k2.1.trans ak.symm),v,bb,k1.2,k2.2,P,a3 (out++[tr]) λx=>by rw[bB,bM];exact⟨λh=>h.imp id λh=>⟨h3,h.symm⟩,λh=>h.imp id λh=>h.2.symm⟩,by rw[aV,aV];simpa using OH,by rw[aV];exact ac⟩
  ·have q3:(g=3)=False:=aI h3
   refine eV trivial ?_;refine nx ?_;refine t0 ?_;intro U Y O C;refine rj rfl (show(13:Nat)<33 by decide) (by exact i) a9 ?_;refine eV (ej f0 m A E y w q3) ?_;refine nx ?_;refine tq (ej f0 m A E y w q3) ?_;intro U Y O C;refine tz ?_;exact⟨_,by show(t1++t2).length<(t1++b::t2).length;rw[aV,aV,bx];omega,t1++t2,u++[b],out,ob,rfl,J,f0,i,B,a5,by rw[I] at MU;exact MU,a6,N,P,a3 out λx=>⟨.inl,λh=>h.elim id λh=>absurd h.1 h3⟩,by rw[aV];omega,by rw[aV];exact ac⟩
noncomputable def QV (b:bn) (L:List Int):List Int:=L.flatMap λx=>xR b.ty (KA b x)
theorem GI (ts:List bp)(i:Int):(xR ts i).length<=1000000:=by
 unfold xR;have:=kU (λr=>Ja ts i r) ((List.range 1000000).map Int.ofNat);rwa[aS,tL] at this
theorem KE (b:bn)(L:List Int):(QV b L).length<=L.length * 1000000:=oP λx _=>GI _ _
theorem QW {b:bn}(h:j<L.length):QV b (L.take (j+1))=QV b (L.take j)++xR b.ty (KA b L[j]):=by
 unfold QV;rw[bw h,gb];simp
def vY (p:Int) (S:List (Int×Int)) (l:List Int):List (Int×Int):=l.foldl (λS r=>uQ S (r,p)) S
theorem L6 {S:List (Int×Int)}{l:List Int}(h:j<l.length):vY p S (l.take (j+1))=uQ (vY p S (l.take j)) (l[j],p):=by
 unfold vY;rw[bw h,mX];rfl
theorem Fl {l:List Int}:∀{S:List (Int×Int)}{y:Int×Int},y∈vY p S l↔y∈S\/(y.2=p/\y.1∈l):=by
 induction l with
 |nil=>intro S y;simp [vY]
 |cons r l c=>
  intro S y
  have e:vY p S (r::l)=vY p (uQ S (r,p)) l:=rfl
  rw[e,c,Fm,bV]
  constructor
  ·rintro((h|h)|h)
   ·exact .inl h
   ·rw[h];exact .inr ⟨rfl,.inl rfl⟩
   ·exact .inr ⟨h.1,.inr h.2⟩
  ·rintro(h|⟨b,h2|h2⟩)
   ·exact .inl (.inl h)
   ·exact .inl (.inr (mc h2 b))
   ·exact .inr ⟨b,h2⟩
theorem OO (p:Int)(l:List Int):∀S,(vY p S l).length<=S.length+l.length:=by
 induction l with
 |nil=>intro S;exact bh _
 |cons r l b=>
  intro S
  have e:vY p S (r::l)=vY p (uQ S (r,p)) l:=rfl
  have c:=b (uQ S (r,p))
  have f:=OP S (r,p)
  rw[e,bx];omega
theorem Vx (b:bn)(s:∀x,x∈L↔zU b p x)(B:pI b.ty)(g:rbd b.ty 1000000)(r:Int):r∈rO b.ol b.rg.length (QV b L) b.rg.length↔KS b r p:=by
 unfold rO;rw[fN,cD,tO];constructor
 ·rintro⟨_,m,c,e⟩
  obtain⟨x,k,c⟩:=la.1 c;exact⟨x,m,(s x).1 k,(Al.1 c).2,e⟩
 ·rintro⟨x,m,k,c,e⟩
  have f:bN b.rg.length r/\bN b.rg.length m/\Reach b.ol r m:=by
   refine eC λh=>?_;rw[lP h] at e;cases e
  obtain⟨E,v⟩:=f.1;refine⟨⟨r.toNat,by rw[ib];omega,by omega⟩,m,la.2 ⟨x,(s x).2 k,Al.2 ⟨?_,c⟩⟩,e⟩;obtain⟨u,t,z,w,y⟩:=c;have i:bN b.ty.length t:=by
   have v:=z.le (Dn.A B) u;unfold bN at u ⊢;omega
  have:=g _ (ni i) w;rw[y] at this;exact this
theorem Hg {b:bn}(h:KS b r p):bN b.rg.length r:=by
 obtain⟨x,m,g,f,c⟩:=h;refine eC λh=>?_;rw[lP λe=>h e.1] at c;cases c
theorem Ot {b:bn}(h:KS b r p):0<=p/\p<bu (fD b):=by
 obtain⟨x,m,c,e,f⟩:=h;exact(Dz c).1
theorem E3 {l:List Int}(h:l.Nodup):(dL l).Pairwise (·<·):=by
 have f:(dL l).Pairwise λa b=>decide (a<=b)=true:=yz (λa b c f e=>by simp at *;omega) (λa b=>by simp;omega) l;have e:(dL l).Nodup:=(tK l _).nodup_iff.2 h;rw[yy] at e;exact(f.and e).imp λ{a b} h=>by have:=h.1;have:=h.2;simp at *;omega
theorem DK (l:List (Int×Int))(n:Int)(o:List Int)(i:Nat):(rO l n o i).Pairwise (·<·):=by
 unfold rO;refine List.Pairwise.filter _ ?_;rw[rE];exact tI.imp λh=>by omega
theorem Kj {x:Int}:x∈rO l n o n.toNat↔bN n x/\∃q∈o,bN n q/\Reach l x q:=by
 unfold rO;rw[fN,cD,tO];constructor
 ·rintro⟨⟨k,g,rfl⟩,q,c,e⟩
  rw[ib] at g;have:bN n k/\bN n q/\Reach l k q:=eC λh=>by rw[lP h] at e;cases e
  exact⟨this.1,q,c,this.2⟩
 ·rintro⟨b,q,c,f⟩
  refine⟨⟨x.toNat,?_,?_⟩,q,c,yq ⟨b,f⟩⟩
  ·rw[ib];unfold bN at b;omega
  ·unfold bN at b;omega
theorem IF {b:Int}(hc:∀y∈S,∀x,(x,y)∈l->x∈S)(h:Reach l a b):b∈S->a∈S:=by
 induction h with
 |refl=>exact id
 |step _ c f=>exact λe=>f (hc _ e _ c)
theorem FG (c:S.Nodup)(b:∀x∈S,bN n x/\∃q∈o,bN n q/\Reach l x q)(e:∀q∈o,bN n q->q∈S)(hc:∀y∈S,∀x,(x,y)∈l->x∈S):dL S=rO l n o n.toNat:=by
 refine qK (E3 c) (DK _ _ _ _) λx=>?_;rw[sx,Kj];constructor
 ·exact b x
 ·rintro⟨_,q,h,f,g⟩
  exact IF hc g (e q h f)
theorem BF (x:Int)(S:List Int):∀y,(if y=x then some (D.val (.bool true)) else ig S y)=ig (S++[x]) y:=λy=>by
 rw[uc x S y];unfold ig;have:(y∈x::S)=(y∈S++[x]):=by simp [or_comm]
 simp only[this]
structure CSR (l:List (Int×Int)) (n:Int) (o S:List Int) (i:Nat):Prop where
 nd:S.Nodup
 inr:∀x∈S,bN n x/\∃q∈o,bN n q/\Reach l x q
 st:∀q∈o,bN n q->q∈S
 cl:∀y∈S.take i,∀x,(x,y)∈l->x∈S
def YA (H:aA) (b:Nat) (S:List Int) (d:D) (H':aA):Prop:=∃c o,d=.os c o 1 0 S.length/\H c=none/\H' c=some (.row 3 o 1 (S.map iD))/\c≠b
def C1 (o:List Int) (n:Int) (e f b:Nat) (H:aA) (i:Nat) (s:St):Prop:=
 s.df=[]/\s.fr 0=fJ n e f/\s.fr 5=.val (.map (some b))/\s.fr 13=.seq 1 (o.map iD)/\s.fr 14=i64 o.length/\s.fr 15=i64 i/\H.le s.H/\∃M S c,s.H b=some (.map M)/\fZ M (ig S)/\Gl H 3 1 (S.map iD) (s.fr 6) s.H c/\c≠some b/\S.Nodup/\(∀x∈S,bN n x/\x∈o)/\∀k (h:k<o.length),k<i->bN n o[k]->o[k]∈S
def C2 (l:List (Int×Int)) (o:List Int) (n:Int) (e f b:Nat) (H:aA) (i:Nat) (S:List Int) (s:St):Prop:=
 s.df=[]/\s.fr 0=fJ n e f/\s.fr 5=.val (.map (some b))/\s.fr 9=i64 i/\H.le s.H/\∃M c,s.H b=some (.map M)/\fZ M (ig S)/\Gl H 3 1 (S.map iD) (s.fr 6) s.H c/\c≠some b/\CSR l n o S i/\i<=S.length
theorem Vz (l:List (Int×Int))(n:Int)(o:List Int)(b1 b2:Nat)(H:aA)(hR:oc l b1 b2 H)(e4:∀p∈l,bN n p.1/\bN n p.2)(hn:n<=1000000)(hl:l.length<=1000000)(ho:o.length<=140737488351232):
  aN prog 168 [fJ n b1 b2,.seq 1 (o.map iD)] H λd H'=>d=.seq 1 ((rO l n o n.toNat).map iD)/\H=H':=by
 refine aq (K:=λd=>d=.seq 1 ((rO l n o n.toNat).map iD)) ?_;obtain⟨m1,m2,eg,rV,e5,ce⟩:=hR;have OH:=lm iD o;refine dO func168 ntmps168 results168 λw0 g0 Q aB=>?_;refine to trivial ?_;intro U Y O C;intro g bk;refine tn OH ?_;refine aO o.length (C1 o n b1 b2 g H) ⟨rfl,rfl,rfl,rfl,rfl,rfl,aQ (aF _) bk,[],[],none,aK _ _ _,fZ.nil.congr Cn,eB _ _ _ _,by simp,by simp,by simp,by simp⟩ ?_;rintro i s hi ⟨ap,f0,f5,am,a0,b,aM,M,S,ob,B,hM,hg,a8,a7,hS,al⟩;have hx:=aX i;have dt:=aZ i;by_cases E:i<o.length
 case pos=>
  have q1:=lT i o.length;have m:=bT E;have w3:=wS i;obtain⟨x,f⟩:=oX o[i];rw[<-f] at m;have ea:x∈o:=f▸ao E;refine tq (bG f0 am a0 b q1 m hx (bQ dt E OH)) ?_;intro U Y O C;refine(OG n x b1 b2 _).q ?_;by_cases aa:bN n x
  case neg=>
   rw[af aa];refine tq (av b w3) ?_;intro U Y O C;refine⟨E,ap,f0,f5,am,a0,rfl,aM,M,S,ob,B,hM,hg,a8,a7,hS,λk hk ci u=>?_⟩;by_cases a5:k=i
   ·subst a5;rw[<-f] at u;exact absurd u aa
   ·exact al k hk (by omega) u
  rw[ah aa];have ag: -9223372036854775808<=x/\x<=9223372036854775807:=by unfold bN at aa;omega
  have I:=hM.ok (P:=prog) underlying3 ag;have ar:=hM.get x;by_cases J:x∈S
  ·have v:ig S x=some (.val (.bool true)):=aD J
   rw[v] at ar;refine tq (cw f5 b w3 B ar) ?_;intro U Y O C;refine⟨I,?_⟩;refine tq (bQ f5 b w3) ?_;intro U Y O C;refine⟨E,ap,f0,f5,am,a0,rfl,aM,M,S,ob,B,hM,hg,a8,a7,hS,λk hk ci u=>?_⟩;by_cases a5:k=i
   ·subst a5;rw[<-f];exact J
   ·exact al k hk (by omega) u
  ·have v:ig S x=none:=aC J
   rw[v] at ar;refine tq (cw f5 b w3 B ar) ?_;intro U Y O C;refine⟨I,?_⟩;refine tq (cA f5 b w3 B) ?_;intro U Y O C;refine⟨I,?_⟩;have a2:fZ (eJ M (.int .i64 x) (.val (.bool true))) (ig (S++[x])):=(hM.set ag (.val (.bool true))).congr (BF x S);obtain⟨Z,bb⟩:=oX (eJ M (.int .i64 x) (.val (.bool true)));rw[<-bb] at a2 ⊢;have bs:(s.H.aU g (.map Z)) g=some (.map Z):=aK _ _ _;have b8:H.le (s.H.aU g (.map Z)):=aQ aM bk;have bo:Gl H 3 1 (S.map iD) (s.fr 6) (s.H.aU g (.map Z)) ob:=hg.cM λc' e1=>aJ λe=>a8 (by rw[e1,e]);refine tq (bQ f5 b w3) ?_;intro U Y O C;have e0:=ju a7 λz hz=>(hS z hz).1;refine ax (e:=3) fk rfl fk rfl yv rfl (by decide) b8 bo (new:=[iD x]) (by exact⟨rfl,rfl⟩) (by rw[aS];show(_+1) * 8<=_;omega) λd H6 cr a3 b6 bt=>?_;have a6:=bt _ _ bs a8;rw[show[iD x]=[x].map iD from rfl,<-bI] at a3;refine tq (av b w3) ?_;intro U Y O C;refine⟨E,ap,f0,f5,am,a0,rfl,b6,Z,S++[x],cr,a6.1,a2,a3,a6.2,?_,?_,λk hk ci u=>?_⟩
   ·rw[mW]
    exact⟨a7,by simp,λz hz w hw=>by rw[bM] at hw;subst hw;exact λe=>J (e▸hz)⟩
   ·intro z hz
    rcases bB.1 hz with hz|hz
    ·exact hS z hz
    ·rw[bM] at hz;subst hz;exact⟨aa,ea⟩
   ·by_cases a5:k=i
    ·subst a5;rw[<-f];simp
    ·exact bB.2 (.inl (al k hk (by omega) u))
 case neg=>
  have q1:=lF i o.length;refine tq (bQ a0 b q1) ?_;intro U Y O C;have dx:CSR l n o S 0:=⟨a7,λx hx=>⟨(hS x hx).1,x,(hS x hx).2,(hS x hx).1,.refl x⟩,λq hq a9=>by
   obtain⟨k,hk,rfl⟩:=kV hq;exact al k hk (by omega) a9,by simp⟩
  refine jz (λk s=>∃i S,C2 l o n b1 b2 g H i S s/\k=n.toNat - i) (n.toNat - 0) ⟨0,S,⟨ap,f0,f5,rfl,aM,M,ob,B,hM,hg,a8,dx,by omega⟩,rfl⟩ ?_;rintro k s1 ⟨A,R,⟨b3,k0,k5,k9,b4,M1,ei,ec,kM,kg,ed,kS,kiS⟩,hk⟩;have e0:=ju kS.nd λz hz=>(kS.inr z hz).1;have c1:=aX A;have bf:=aZ A;rcases kg with⟨_,f6,dz⟩|⟨c,oo,dd,f6,bl,a1⟩
  ·have dy:R=[]:=by cases R with
    |nil=>rfl
    |cons a t=>cases dz
   subst dy
   have de:A=0:=by simpa using kiS
   subst de
   refine tq (av k9 f6) ?_;intro U Y O C
   refine(vt _).q ?_
   refine ur aB f6 b3 ?_
   have b7:=FG kS.nd kS.inr kS.st (by simp)
   have e8:dL []=[]:=cy (dw [])
   exact⟨_,aF _,b4,_,iq,by rw[<-b7,e8] <;> rfl⟩
  ·rw[aS] at f6
   have cv:c≠g:=λe=>ed (by rw[dd,e]);by_cases bc:A<R.length
   case neg=>
    have q1:=nF ((A:Int)<(R.length:Int));refine tq (bQ k9 f6 q1) ?_;intro U Y O C;refine(vu a1 (by omega)).mono ?_;rintro d _ ⟨rfl,rfl⟩;have b7:=FG kS.nd kS.inr kS.st (by
     have:=kS.cl;rwa[bK (by omega)] at this)
    have cc:H.le (s1.H.aU c (.row 3 oo 1 ((dL R).map iD))):=aQ b4 bl;have e2:Gl H 3 1 ((dL R).map iD) (.os c oo 1 0 R.length) (s1.H.aU c (.row 3 oo 1 ((dL R).map iD))) (some c):=.inr ⟨c,oo,rfl,by rw[aS,dw],bl,aK _ _ _⟩;refine ur aB f6 b3 ?_;exact⟨_,aF _,cc,_,da cc e2,by rw[b7]⟩
   have q1:=nT ((A:Int)<(R.length:Int));have m:=bT bc;obtain⟨x,f⟩:=oX R[A];rw[<-f] at m;have J:=kS.inr x (f▸ao bc);have ag: -9223372036854775808<=x/\x<=9223372036854775807:=by have:=J.1;unfold bN at this;omega
   have c9:s1.H b2=some (.map m2):=b4 _ _ e5;have I:=ce.ok (P:=prog) underlying3 ag;have a4:=ce.get x;(iterate 7 (refine tk (bG k0 k5 k9 f6 q1 a1 m (av c1 bf)) ?_;intro U Y O C));refine Gu 49 (.val (.slice none 0 0)) (.seq 1 []) fO (λs'=>s'.df=[]/\s'.fr 0=fJ n b1 b2/\s'.fr 5=.val (.map (some g))/\s'.fr 6=.os c oo 1 0 R.length/\s'.fr 9=i64 A/\s'.fr 49=.seq 1 ((cT l x).map iD)/\s'.fr 50=i64 (cT l x).length/\s'.fr 51=i64 0/\s'.H=s1.H) ?_ ?_
   ·unfold Aa at a4
    by_cases aw:cT l x=[]
    ·rw[aD aw] at a4
     refine dE (λ_ _ _ _=>False) λU Y=>?_;refine dst (bG k0 k5 k9 f6 @fJ.eq_1 c9 a4 (cA a1 m c1 bf)) ?_;intro U Y O C;exact⟨by omega,I,Y _ (.inr ⟨rfl,b3,k0,k5,f6,k9,by rw[aw] <;> rfl,by rw[aw] <;> rfl,rfl,rfl⟩)⟩
    ·rw[aC aw] at a4
     refine dE (λ_ _ _ _=>False) λU Y=>?_;refine dst (bG k0 k5 k9 f6 @fJ.eq_1 c9 a4 (cA a1 m c1 bf)) ?_;intro U Y O C;exact⟨by omega,I,Y _ (.inl ⟨b3,k0,k5,f6,k9,rfl,rfl,rfl,rfl⟩)⟩
   rintro s2 ⟨dp,g0,g5,g6,g9,dl,dm,dn,bi⟩;have ck:(List.map iD (cT l x)).length=(cT l x).length:=aS _;refine nP ?_;refine aO (cT l x).length (λj s=>s.df=[]/\s.fr 0=fJ n b1 b2/\s.fr 5=.val (.map (some g))/\s.fr 9=i64 A/\s.fr 49=.seq 1 ((cT l x).map iD)/\s.fr 50=i64 (cT l x).length/\s.fr 51=i64 j/\H.le s.H/\∃M S,s.H g=some (.map M)/\fZ M (ig S)/\YA H g S (s.fr 6) s.H/\CSR l n o S A/\S[A]?=some x/\∀t (h:t<(cT l x).length),t<j->(cT l x)[t]∈S) ?_ ?_
   ·refine⟨dp,g0,g5,g9,dl,dm,dn,by rw[bi];exact b4,M1,R,by rw[bi];exact ec,kM,⟨c,oo,g6,bl,by rw[bi];exact a1,cv⟩,kS,by rw[az bc,f],by omega⟩
   rintro j s3 hj ⟨c5,l0,l5,l9,b5,ab,N,c7,M3,T,ac,lM,⟨c3,o3,l6,b9,ba,ak⟩,V,ad,be⟩;have ch:=aX j;have cd:=aZ j;have e3:A<T.length:=(gI.1 ad).1;have ef:=ju V.nd λz hz=>(V.inr z hz).1;by_cases G:j<(cT l x).length
   case neg=>
    have q3:=nF ((j:Int)<((cT l x).length:Int));have w3:=wS A;refine tq (cw l9 ab N q3 w3) ?_;intro U Y O C;refine⟨n.toNat - (A+1),(show _<_ by omega),A+1,T,⟨c5,l0,l5,rfl,c7,M3,some c3,ac,lM,.inr ⟨c3,o3,rfl,by rw[aS];exact l6,b9,ba⟩,(λe=>ak (by injection e)),⟨V.nd,V.inr,V.st,λy hy z hz=>?_⟩,by omega⟩,rfl⟩;rw[List.take_add_one,ad] at hy;rcases bB.1 hy with hy|hy
    ·exact V.cl y hy z hz
    ·have eb:y=x:=by simpa using hy
     subst eb;obtain⟨t,ht,he⟩:=kV (qC.2 hz);rw[<-he];exact be t ht (by omega)
   have q3:=nT ((j:Int)<((cT l x).length:Int));have bq:=bT G;obtain⟨y,hy⟩:=oX ((cT l x)[j]);rw[<-hy] at bq;have cq:(y,x)∈l:=qC.1 (by rw[hy];exact ao G);have c4:=(e4 _ cq).1;simp only at c4;have c8: -9223372036854775808<=y/\y<=9223372036854775807:=by unfold bN at c4;omega
   have w4:IntKind.i64.wrap ((j:Int)+1)=((j+1:Nat):Int):=by
    have:(cT l x).length<=l.length:=by unfold cT;rw[aS];exact kU _ _
    rw[aP (by omega)];omega
   have br:=lM.ok (P:=prog) underlying3 c8;have ae:=lM.get y;by_cases b0:y∈T
   ·have v:ig T y=some (.val (.bool true)):=aD b0
    rw[v] at ae;refine tq (bG l5 b5 ab N q3 bq ch (cw cd G ck ac ae)) ?_;intro U Y O C;refine⟨br,?_⟩;refine tq (av N w4) ?_;intro U Y O C;refine⟨G,c5,l0,l5,l9,b5,ab,rfl,c7,M3,T,ac,lM,⟨c3,o3,l6,b9,ba,ak⟩,V,ad,λt ht e9=>?_⟩;by_cases c0:t=j
    ·subst c0;rw[<-hy];exact b0
    ·exact be t ht (by omega)
   ·have v:ig T y=none:=aC b0
    rw[v] at ae;refine tq (bG l5 b5 ab N q3 bq ch (cw cd G ck ac ae)) ?_;intro U Y O C;refine⟨br,?_⟩;refine tq (bQ l5 N ac) ?_;intro U Y O C;refine⟨br,?_⟩;have a2:fZ (eJ M3 (.int .i64 y) (.val (.bool true))) (ig (T++[y])):=(lM.set c8 (.val (.bool true))).congr (BF y T);obtain⟨Z,bb⟩:=oX (eJ M3 (.int .i64 y) (.val (.bool true)));rw[<-bb] at a2 ⊢;have bs:(s3.H.aU g (.map Z)) g=some (.map Z):=aK _ _ _;have b8:H.le (s3.H.aU g (.map Z)):=aQ c7 bk;have bo:Gl H 3 1 (T.map iD) (.os c3 o3 1 0 T.length) (s3.H.aU g (.map Z)) (some c3):=.inr ⟨c3,o3,rfl,by rw[aS],b9,by rw[aJ ak];exact ba⟩;have e6:(some c3:Option Nat)≠some g:=λe=>ak (by injection e);refine tq (av l6 w4) ?_;intro U Y O C;refine ax (e:=3) fk rfl fk rfl yv rfl (by decide) b8 bo (new:=[iD y]) (by exact⟨rfl,rfl⟩) (by rw[aS];show(_+1) * 8<=_;omega) λd H6 cr a3 b6 bt=>?_;have a6:=bt _ _ bs e6;rw[show[iD y]=[y].map iD from rfl,<-bI] at a3;have ct:YA H g (T++[y]) d H6:=by
     rcases a3 with⟨_,_,h⟩|⟨c,o,h0,h1,h2,h3⟩
     ·simp at h
     ·exact⟨c,o,by rw[h1,aS],h2,h3,λe=>a6.2 (by rw[h0,e])⟩
    refine tq (av N w4) ?_;intro U Y O C;refine⟨G,c5,l0,l5,l9,b5,ab,rfl,b6,Z,T++[y],a6.1,a2,ct,⟨?_,?_,?_,?_⟩,?_,λt ht e9=>?_⟩
    ·rw[mW]
     exact⟨V.nd,by simp,λz hz w hw=>by rw[bM] at hw;subst hw;exact λe=>b0 (e▸hz)⟩
    ·intro z hz
     rcases bB.1 hz with hz|hz
     ·exact V.inr z hz
     ·rw[bM] at hz
      subst hz;obtain⟨_,q,hq,a9,e7⟩:=V.inr x (eh ad);exact⟨c4,q,hq,a9,((Reach.refl z).step cq).trans e7⟩
    ·exact λq hq a9=>bB.2 (.inl (V.st q hq a9))
    ·intro z hz w hw
     rw[uh (by omega)] at hz;exact bB.2 (.inl (V.cl z hz w hw))
    ·rw[kT e3];exact ad
    ·by_cases c0:t=j
     ·subst c0;rw[<-hy];simp
     ·exact bB.2 (.inl (be t ht (by omega)))
structure VT (b:bn):Prop where
 lv:Gn b
 ck:∀H,aN prog 35 [.agg (cu b)] H λd H'=>d=i64 0/\H=H'
 rel:fc b.ol b.rg.length=0
 wt:pI b.ty
 rb:rbd b.ty 1000000
 tl:b.ty.length<=1000000
 ar:∀t∈b.ty,t.ar.length<=140737488351232
 MX:b.rg.length<=10000
 Qm:b.ol.length<=1000000
 Xp:b.lc.length<=10000
 lin:∀p x,zU b p x->bN b.lc.length x
structure RgS (b:bn) (n:Nat) (bs:Nat) (RD:D) (GM:List (List D)) (i:Nat) (s:St):Prop where
 df:s.df=[]
 f1:s.fr 1=.rp (cu b)
 f4:s.fr 4=RD
 f6:s.fr 6=.val (.map (some bs))
 f30:s.fr 30=.seq 1 GM
 f31:s.fr 31=i64 n
 f32:s.fr 32=i64 i
structure RgI (b:bn) (HR:aA) (bs i:Nat) (S:List (Int×Int)) (Hs:aA):Prop where
 le:HR.le Hs
 m:Hs bs=some (.map (yO S))
 mem:∀y,y∈S↔(0<=y.2/\y.2<i)/\KS b y.1 y.2
 len:S.length<=i * 10000
theorem aCd:Qq 171:=⟨jH func171 rfl rfl,Vv⟩
theorem Sj (b:bn)(H:aA)(ok:VT b):aN prog 93 [.agg (cu b)] H λd H'=>∃S:List (Int×Int),(S.length<=1300000/\∀y,y∈S↔KS b y.1 y.2)/\d=.eO [.seq 2 ((en S).map pD),i64 0]/\H=H':=by
 have b5:=ok.ck;have c5:=ok.lv.cn;have aa:=λH1=>Ou b H1 ok.lv;obtain⟨n,hn⟩:=oX (bu (fD b));rw[<-hn] at aa c5;have cr:=lm sD b.rg;have dl:=ok.MX;have bm:=λH1=>Up b.ol b.rg.length H1 (by omega) ok.rel;refine gQ (aq (K:=λd=>∃S:List (Int×Int),(S.length<=1300000/\∀y,y∈S↔KS b y.1 y.2)/\d=.eO [.seq 2 ((en S).map pD),i64 0]) ?_) (λd H' ⟨⟨S,I,B⟩,h3⟩=>⟨S,I,B,h3⟩);unfold cu at b5 aa ⊢;refine dO func93 ntmps93 results93 λw0 g0 Q aB=>?_;refine t0 ?_;intro U Y O C;intro c1 c3;refine Y _ ?_;refine cm 1 c3 ?_;refine t0 ?_;intro U Y O C;refine(b5 _).qs cr ?_;intro U Y O C;refine(bm _).mono ?_;rintro d HR ⟨b1,b2,m1,m2,rfl,dt,dx,de,dn,hrel,ad⟩;obtain⟨RD,b4⟩:=oX (fJ b.rg.length b1 b2);rw[<-b4];refine t0 ?_;intro U Y O C;intro w a8;refine Y _ ?_;refine t0 ?_;intro U Y O C;refine(aa _).mono ?_;rintro d _ ⟨V,c0,hV,rfl,rfl⟩;have bq:=gA ad a8;obtain⟨GM,a2⟩:=oX ((my n).map λp=>[D.seq 1 ((dL (Lp V p)).map iD)]);rw[<-a2];have be:GM.length=n:=by rw[a2,aS,iw]
 refine tn be ?_;refine aO n (λi s=>RgS b n w RD GM i s/\∃S,RgI b HR w i S s.H) ⟨⟨rfl,rfl,rfl,rfl,rfl,rfl,rfl⟩,[],j5 (aF _) a8,aK _ _ _,λy=>by simp;omega,by simp⟩ ?_;rintro i s hi ⟨⟨m,v,G,z,k,f,g⟩,S,⟨u,E,a0,cd⟩⟩;unfold cu at v;have hx:=aX i;have b0:=aZ i;by_cases b8:i<n
 case neg=>
  have q1:=nF ((i:Int)<(n:Int));have c9:i=n:=by omega
  subst c9;refine Bn w (RH S) E λes Z ch=>?_;obtain⟨Hh,P⟩:=oX (s.H.aU w (.obj (.map es Z)));rw[<-P];have ae:H.le Hh:=by rw[P];exact aQ (iL ad u) bq
  have bb:Hh w=some (.obj (.map es Z)):=by rw[P,aK]
  clear P;refine tq (cA z f g q1) ?_;intro U Y O C;refine(SX w _).qt ?_;intro U Y O C;refine(MC aCd (O0 S w es Z ch) S Hh (λH' h=>h _ _ bb) (λHc h=>h _ _ bb) (λl h=>by obtain⟨r,hr⟩:=h;have:=hr.length_eq;rw[aV] at this;omega) (λl h=>h) (by omega)).mono ?_;rintro d _ ⟨rfl,rfl⟩;refine ur aB trivial m ?_;refine⟨_,aF _,ae,_,aL ae,S,⟨by omega,λy=>?_⟩,rfl⟩;rw[a0 y,hn];exact⟨λh=>h.2,λh=>⟨Ot h,h⟩⟩
 have T:(i:Int)<(n:Int):=by omega
 have q1:((i:Int)<(n:Int))=True:=aG T;have w3:=wS i;obtain⟨L,hL⟩:=oX (dL (Lp V i));have c8:GM[i]?=some [.seq 1 (L.map iD)]:=by
  have:=qo (λp=>[D.seq 1 ((dL (Lp V p)).map iD)]) (n:=n) (x:=(i:Int)) b0 T;rw[hx] at this;rw[a2,hL];exact this
 have b3:∀x,x∈L↔zU b i x:=λx=>by rw[hL,sx,xJ,hV]
 have bo:∀x∈L,bN b.lc.length x:=λx h=>ok.lin i x ((b3 x).1 h);have dp:L.length<=10000:=by
  have I:=ju (M6 c0 i) (n:=b.lc.length) λx hx=>ok.lin i x ((hV (i,x)).1 (xJ.1 hx));have B:=ok.Xp;rw[hL,dw];omega
 have al:=lm iD L;clear hL;refine tq (bG k f g q1 c8 be hx (cA b0 b8 T al)) ?_;intro U Y O C;refine Ie (λs=>RgS b n w RD GM i s/\s.fr 7=i64 i/\s.fr 9=.seq 1 ((QV b L).map iD)/\HR.le s.H/\s.H w=some (.map (yO S))) ?_ ?_
 ·refine aO L.length (λj s=>RgS b n w RD GM i s/\s.fr 7=i64 i/\s.fr 37=.seq 1 (L.map iD)/\s.fr 38=i64 L.length/\s.fr 39=i64 j/\HR.le s.H/\s.H w=some (.map (yO S))/\∃ob,Gl HR 3 1 ((QV b (L.take j)).map iD) (s.fr 9) s.H ob/\ob≠some w) ⟨⟨m,v,G,z,k,f,g⟩,rfl,rfl,rfl,rfl,u,E,none,eB _ _ _ _,by simp⟩ ?_
  clear E u g f k z G v m;clear s;rintro j s hj ⟨⟨m,v,G,z,k,f,g⟩,R,am,a3,a4,u,E,ob,hg,ba⟩;unfold cu at v;have ab:=aX j;have a6:=aZ j;by_cases t:j<L.length
  case neg=>
   have q2:=lF j L.length;rw[bK (by omega)] at hg;refine RL 9 u hg λH' bt ci=>?_;have ce:=ci _ _ E ba;refine tq (bQ a3 a4 q2) ?_;intro U Y O C;exact Ya ⟨⟨m,v,G,z,k,f,g⟩,R,rfl,bt,ce⟩
  have q2:=lT j L.length;have w4:=wS j;have J:=bT t;have M:=QW (b:=b) t;have w9:=KE b (L.take j);have dz:(L.take j).length<=10000:=by rw[bX];omega
  obtain⟨x0,x1⟩:=bo L[j] (ao _);obtain⟨x,ct⟩:=oX L[j];rw[<-ct] at J M x0 x1;have cc:=lm eQ b.lc;have bf:x.toNat<b.lc.length:=by omega
  have c7:(List.map eQ b.lc)[x.toNat]?=some [bC b.lc[x.toNat].nm,i64 (KA b x)]:=by
   rw[bg,az bf];unfold KA;rw[az bf];rfl
  have dm:=GI b.ty (KA b x);have bl:∀H1,cP prog 167 [.seq 5 (b.ty.map bS),i64 (KA b x)] H1 λd A=>A=aA.none/\d=.seq 1 ((xR b.ty (KA b x)).map iD):=λH1=>an λbi dd=>UL b.ty (KA b x) bi ok.wt ok.rb ok.tl ok.ar;obtain⟨d9,b6⟩:=oX (s.fr 9);rw[<-b6] at hg;refine tq (bG am a3 a4 q2 J ab a6 (av t al)) ?_;intro U Y O C;refine wE (λ_=>false) (λ_=>false) (λ_ _ d A=>A=.none/\d=.seq 1 ((xR b.ty (KA b x)).map iD)) (λ_ _ _ _ _=>False) λU Y=>?_;have fs:=And.intro v (And.intro c7 (And.intro cc (And.intro x0 x1)));refine uj ?_;refine nx ?_;(try clear fs);refine⟨bl _,?_⟩;rw[<-b6];refine ax (e:=3) fk rfl fk rfl yv rfl (by decide) u hg (new:=(xR b.ty (KA b x)).map iD) (by exact⟨rfl,rfl⟩) (by rw[aS,aS];show(List.length (QV b (L.take j))+_) * 8<=_;omega) λd H6 cv b7 bk cl=>?_;have q3:=cl _ _ E ba;rw[<-bI,<-M] at b7;refine tn (av a4 w4) ?_;exact⟨t,⟨m,v,G,z,k,f,g⟩,R,am,a3,rfl,bk,q3.1,cv,b7,q3.2⟩
 clear E u g f k z G v m;clear s;rintro s ⟨⟨m,v,G,z,k,f,g⟩,R,f9,u,E⟩;have w9:=KE b L;have ag:oc b.ol b1 b2 s.H:=by
  obtain⟨m1,m2,I,B,h3,h4⟩:=hrel;exact⟨m1,m2,u _ _ I,B,u _ _ h3,h4⟩
 obtain⟨o1,o2⟩:=wo ok.rel;have N:=Vz b.ol b.rg.length (QV b L) b1 b2 s.H ag o2 (by omega) (by omega) (by omega);rw[<-b4,aX] at N;have a9:=Vx b (p:=i) b3 ok.wt ok.rb;have c4:=Ki b.ol b.rg.length (QV b L) b.rg.length;obtain⟨c,hC⟩:=oX (rO b.ol b.rg.length (QV b L) b.rg.length);rw[<-hC] at N a9 c4;clear hC;have ac:=lm iD c;refine tq (av G f9) ?_;intro U Y O C;refine N.mono ?_;rintro d _ ⟨rfl,a7⟩;refine tn ac ?_;refine aO c.length (λj s=>RgS b n w RD GM i s/\s.fr 7=i64 i/\s.fr 57=.seq 1 (c.map iD)/\s.fr 58=i64 c.length/\s.fr 59=i64 j/\HR.le s.H/\s.H w=some (.map (yO (vY i S (c.take j))))) ⟨⟨m,v,G,z,k,f,g⟩,R,rfl,rfl,rfl,a7▸u,by rw[gK];exact a7▸E⟩ ?_;clear E u g f k f9 R z G v m a7 N ag;clear s;rintro j s hj ⟨⟨m,v,G,z,k,f,g⟩,R,ap,a5,aw,u,E⟩;have ab:=aX j;have a6:=aZ j;by_cases t:j<c.length
 case neg=>
  have q2:=lF j c.length;rw[bK (by omega)] at E;have dy:=OO i c S;refine tq (cw g a5 aw q2 w3) ?_;intro U Y O C;refine⟨b8,⟨m,v,G,z,k,f,rfl⟩,vY i S c,u,E,λy=>?_,by rw[kH];omega⟩;rw[Fl,a0 y,a9 y.1];constructor
  ·rintro(⟨I,B⟩|⟨I,B⟩)
   ·exact⟨⟨I.1,by omega⟩,B⟩
   ·rw[I];exact⟨⟨by omega,by omega⟩,B⟩
  ·rintro⟨I,B⟩
   by_cases e:y.2=i
   ·rw[e] at B;exact .inr ⟨e,B⟩
   ·exact .inl ⟨⟨I.1,by omega⟩,B⟩
 have q2:=lT j c.length;have w4:=wS j;have J:=bT t;have M:=L6 (p:=i) (S:=S) t;have ak:∀r∈c,bN b.rg.length r:=λr hr=>Hg ((a9 r).1 hr);have br:∀y∈vY i S (c.take j),du y.1/\du y.2:=λy hy=>by
  rw[Fl] at hy;have:bN b.rg.length y.1/\0<=y.2/\y.2<130:=by
   rcases hy with hy|⟨I,B⟩
   ·have h3:=(a0 y).1 hy
    exact⟨Hg h3.2,by omega,by omega⟩
   ·exact⟨ak _ (rC B),by omega,by omega⟩
  unfold bN at this;unfold du;omega
 have bc:=ak c[j] (ao _);obtain⟨r,cq⟩:=oX c[j];rw[<-cq] at J M bc;have b9:=Ey br (x:=(r,(i:Int))) (by unfold bN at bc;unfold du;simp only;omega);have a1:=I8 (vY i S (c.take j)) (r,(i:Int));rw[<-M] at a1;simp only[pk] at b9 a1;refine tn (bG z R ap a5 aw q2 J (bG ab a6 t ac E a1 b9 w4)) ?_;exact⟨t,⟨m,v,G,z,k,f,g⟩,R,ap,a5,rfl,aQ u a8,aK _ _ _⟩
structure Qs (b:bn):Prop where
 rg:VT b
 ln:Ys b
 ac:∀p x k,BW b p x k->YK x k/\cH (oq x k).1.pr.length
 ll:(pg b).length<=10000
 lp:∀l∈pg b,cH l.pl.pr.length
open Classical in
noncomputable def ER (P:Int->Int->Prop) (i:Int) (p:Nat):List (Int×Int):=((my p).filter λp=>decide (P i p)).map λp=>(i,p)
theorem Ai (P:Int->Int->Prop)(i n:Nat):qe (i+1) n P=qe i n P++ER P i n:=by
 unfold qe ER;rw[G9,gb];simp
open Classical in
theorem GC (P:Int->Int->Prop)(i:Int)(p:Nat):ER P i (p+1)=ER P i p++(if P i p then [(i,(p:Int))] else []):=by
 unfold ER;rw[G9,ly,bI];congr 1;by_cases h:P i p
 ·rw[aD h,tG (by simpa using h)];rfl
 ·rw[aC h,tH (by simpa using h)];rfl
theorem ES (P:Int->Int->Prop)(i:Int)(p:Nat):(ER P i p).length<=p:=by
 unfold ER;rw[aS];have:=kU (λp=>@decide (P i p) (Classical.propDecidable _)) (my p);rwa[iw] at this
theorem yt (P:Int->Int->Prop)(i n:Nat):(qe i n P).length<=i * n:=by
 induction i with
 |zero=>simp [qe,my]
 |succ i b=>
  rw[Ai,aV,kH]
  have:=ES P i n
  omega
def nH (b:bn) (i p:Int):Prop:=∃l,(pg b)[i.toNat]?=some l/\KR b p l
def oT (b:bn) (i p:Int):Prop:=∃l,(pg b)[i.toNat]?=some l/\KP b p l
theorem Wg (b:bn)(ok:Qs b)(p:Int)(l:pT)(hl:l∈pg b)(h0:0<=p)(hp:p<bu (fD b))(H:aA):∃B:Bool,(B=true↔KR b p l)/\aN prog 97 [.agg (cu b),i64 p,.agg (pF l)] H λd H'=>d=.val (.bool B)/\H=H':=by
 obtain⟨x,k,c⟩:=DD h0 hp;obtain⟨s,f⟩:=ok.ac p x k c;refine⟨Dr x k l,⟨λh=>⟨x,k,c,h⟩,λ⟨y,j,m,h⟩=>by obtain⟨rfl,rfl⟩:=c.uniq m;exact h⟩,?_⟩;obtain⟨i,g,e,rfl⟩:=c;exact S5 b p i k l H g e (by have:=ok.rg.lv.cn;omega) f (ok.lp l hl)
theorem W9 (b:bn)(ok:Qs b)(p:Int)(l:pT)(hl:l∈pg b)(h0:0<=p)(hp:p<bu (fD b))(H:aA):∃B:Bool,(B=true↔KP b p l)/\aN prog 98 [.agg (cu b),i64 p,.agg (pF l)] H λd H'=>d=.val (.bool B)/\H=H':=by
 obtain⟨x,k,c⟩:=DD h0 hp;obtain⟨f,s⟩:=ok.ac p x k c;refine⟨HY x k l,⟨λh=>⟨x,k,c,h⟩,λ⟨y,j,m,h⟩=>by obtain⟨rfl,rfl⟩:=c.uniq m;exact h⟩,?_⟩;obtain⟨i,g,e,rfl⟩:=c;exact SN b p i k l H g e (by have:=ok.rg.lv.cn;omega) f (ok.lp l hl)
structure ExS (b:bn) (c2 c6 n:Nat) (LN:List pT) (i:Nat) (s:St):Prop where
 df:s.df=[]
 f1:s.fr 1=.rp (cu b)
 f2:s.fr 2=.ep c2 0 5 0 0
 f6:s.fr 6=.ep c6 0 5 0 0
 f7:s.fr 7=i64 n
 f33:s.fr 33=.seq 5 (LN.map pF)
 f34:s.fr 34=i64 LN.length
 f35:s.fr 35=i64 i
structure Qr (H:aA) (c2 c6:Nat) (Z:cY) (x0 x1 x4:D) (K V:List (Int×Int)) (Hs:aA):Prop where
 le:H.le Hs
 z:Hs c2=some Z
 hp:∃dk dv ok ov,Hs c6=some (.row 101 0 5 [[x0,x1,dk,dv,x4]])/\Gl H 60 2 (K.map pD) dk Hs ok/\Gl H 60 2 (V.map pD) dv Hs ov/\(ok≠some c2/\ok≠some c6)/\(ov≠some c2/\ov≠some c6)/\∀c,ok=some c->ov≠some c
theorem Qr.ZT {Z:cY}{V y:List (Int×Int)}(v:H c6=none)(u:c2≠c6)(hz:Hs c2=some Z)(R:Hs c6=some (.row 101 0 5 [[x0,x1,dk,dv,x4]]))(B:Gl H 60 2 (V.map pD) dv Hs ov)(J:ok≠some c2/\ok≠some c6)(M:ov≠some c2/\ov≠some c6)(x:∀c,ok=some c->ov≠some c)
  {d:D}{k:aA}{f:Option Nat}(w:Gl H 60 2 (y.map pD) d k f) (t:H.le k) (i:∀b z,Hs b=some z->ok≠some b->k b=some z/\f≠some b):Qr H c2 c6 Z x0 x1 x4 y V (k.aU c6 (.row 101 0 5 [[x0,x1,d,dv,x4]])):=by
 have E:=i _ _ hz J.1;have G:=i _ _ R J.2;have I:∀c,ov=some c->k c=Hs c/\f≠some c:=λc s=>by
  rcases B with⟨g,_⟩|⟨T,o,m,_,_,A⟩
  ·rw[g] at s;cases s
  ·rw[s] at m;injection m with m;subst m
   have:=i _ _ A (λe=>x c e s);exact⟨this.1.trans A.symm,this.2⟩
 exact⟨aQ t v,(aJ u).trans E.1,d,dv,f,ov,aK _ _ _,w.cM λc h=>aJ λe=>G.2 (by rw[h,e]),B.cM λc h=>(aJ λe=>M.2 (by rw[h,e])).trans (I c h).1,⟨E.2,G.2⟩,M,λc N P=>(I c P).2 N⟩
theorem Qr.ZU {Z:cY}{y:List (Int×Int)}(v:H c6=none)(u:c2≠c6)(hz:Hs c2=some Z)(P:Hs c6=some (.row 101 0 5 [[x0,x1,dk,dv,x4]]))(B:Gl H 60 2 (K.map pD) dk Hs ok)(J:ok≠some c2/\ok≠some c6)(M:ov≠some c2/\ov≠some c6)(x:∀c,ok=some c->ov≠some c)
  {d:D}{k:aA}{f:Option Nat}(w:Gl H 60 2 (y.map pD) d k f) (t:H.le k) (i:∀b z,Hs b=some z->ov≠some b->k b=some z/\f≠some b):Qr H c2 c6 Z x0 x1 x4 K y (k.aU c6 (.row 101 0 5 [[x0,x1,dk,d,x4]])):=by
 have E:=i _ _ hz M.1;have G:=i _ _ P M.2;have I:∀c,ok=some c->k c=Hs c/\f≠some c:=λc s=>by
  rcases B with⟨g,_⟩|⟨R,o,m,_,_,A⟩
  ·rw[g] at s;cases s
  ·rw[s] at m;injection m with m;subst m
   have:=i _ _ A (x c s);exact⟨this.1.trans A.symm,this.2⟩
 exact⟨aQ t v,(aJ u).trans E.1,dk,d,ok,f,aK _ _ _,B.cM λc h=>(aJ λe=>J.2 (by rw[h,e])).trans (I c h).1,w.cM λc h=>aJ λe=>G.2 (by rw[h,e]),J,⟨E.2,G.2⟩,λc N=>(I c N).2⟩
theorem LW (b:bn)(H:aA)(ok:Qs b):aN prog 44 [.agg (cu b)] H λd H'=>∃S:List (Int×Int),(S.length<=1300000/\∀y,y∈S↔KS b y.1 y.2)/\d=.eO [.agg [.seq 5 ((pg b).map pF),.seq 2 ((oh (fD b)).map pD),.seq 2 ((qe (pg b).length (bu (fD b)) (nH b)).map pD),.seq 2 ((qe (pg b).length (bu (fD b)) (oT b)).map pD),.seq 2 ((en S).map pD)],i64 0]/\H=H':=by
 have b7:=ok.rg.ck;have b8:=ok.rg.lv.cn;have ac:=λv=>NL b ok.rg.lv v;have ae:=λv=>Ng b ok.rg.lv v;have ak:=λv=>Sg b v (by omega) ok.ln;have be:=λv=>Sj b v ok.rg;refine gQ (aq (K:=λd=>∃S:List (Int×Int),(S.length<=1300000/\∀y,y∈S↔KS b y.1 y.2)/\d=.eO [.agg [.seq 5 ((pg b).map pF),.seq 2 ((oh (fD b)).map pD),.seq 2 ((qe (pg b).length (bu (fD b)) (nH b)).map pD),.seq 2 ((qe (pg b).length (bu (fD b)) (oT b)).map pD),.seq 2 ((en S).map pD)],i64 0]) ?_) (λd H' ⟨⟨S,R,h2⟩,h3⟩=>⟨S,R,h2,h3⟩);have b0:=λp l hl h0 hp v=>Wg b ok p l hl h0 hp v;have aw:=λp l hl h0 hp v=>W9 b ok p l hl h0 hp v;obtain⟨n,hn⟩:=oX (bu (fD b));rw[<-hn] at b8 ac ⊢;have c4:=ok.ll;obtain⟨f,a9⟩:=oX (pg b);obtain⟨E,hE⟩:=oX (oh (fD b));rw[<-a9] at ak c4 ⊢;rw[<-hE] at ae ⊢;unfold cu at b7 ac ae ak be b0 aw ⊢;refine dO func44 ntmps44 results44 λw0 g0 Q aB=>?_;refine t0 ?_;intro U Y O C;intro c1 b6 c2 ab;refine Y _ ?_;refine Yc 1 b6 ab ?_;have ar:=(bF.1 ab).2;clear b6 ab;refine t0 ?_;intro U Y O C;refine(b7 _).qt ?_;intro U Y O C;refine(be _).mono ?_;rintro d _ ⟨S,hS,rfl,rfl⟩;obtain⟨LR,b4⟩:=oX ((en S).map pD);rw[<-b4];refine t0 ?_;intro U Y O C;have bm:∀v,cP prog 94 [.agg [bC b.nm,.seq 1 (b.rg.map sD),.seq 2 (b.ol.map pD),.seq 5 (b.ty.map bS),.seq 2 (b.lc.map eQ),i64 b.ag,.seq 7 (b.bl.map dM)]] v λd A=>A=aA.none/\d=.seq 5 (f.map pF):=λv=>an λa5 bi=>ak a5;have bk:∀v,cP prog 95 [.agg [bC b.nm,.seq 1 (b.rg.map sD),.seq 2 (b.ol.map pD),.seq 5 (b.ty.map bS),.seq 2 (b.lc.map eQ),i64 b.ag,.seq 7 (b.bl.map dM)]] v λd A=>A=aA.none/\d=.seq 2 (E.map pD):=λv=>an λa5 bi=>ae a5;refine wE (λ_=>false) (λ_=>false) (λt _ d A=>A=.none/\d=(if t=some 25 then .seq 5 (f.map pF) else .seq 2 (E.map pD))) (λ_ _ _ _ _=>False) λU Y=>?_;have fs:=trivial;refine uj ?_;refine nx ?_;(try clear fs);refine⟨bm _,bk _,λc6 bs=>?_⟩;refine Y _ ?_;obtain⟨am,a7⟩:=bF.1 bs;have bb:=lm pF f;refine t0 ?_;intro U Y O C;refine(ac _).qs bb ?_;intro U Y O C;obtain⟨Z,hZ⟩:=oX (cY.row 101 0 5 [[.val (.slice none 0 0),.val (.slice none 0 0),.val (.slice none 0 0),.val (.slice none 0 0),.val (.slice none 0 0)]]);rw[<-hZ];refine aO f.length (λi s=>ExS b c2 c6 n f i s/\Qr H c2 c6 Z (.seq 5 (f.map pF)) (.seq 2 (E.map pD)) (.seq 2 LR) (qe i n (nH b)) (qe i n (oT b)) s.H) ⟨⟨rfl,rfl,rfl,rfl,rfl,rfl,rfl,rfl⟩,aQ (aQ (aF _) ar) a7,(aJ am.symm).trans (aK _ _ _),_,_,none,none,aK _ _ _,eB _ _ _ _,eB _ _ _ _,by simp,by simp,by simp⟩ ?_;rintro i s hi ⟨⟨u,I,N,J,P,m,g,k⟩,hX⟩;have hx:=aX i;have br:=aZ i;by_cases a3:i<f.length
 case neg=>
  have q1:=lF i f.length;have c0:i=f.length:=by omega
  subst c0;obtain⟨aM,hz,dk,dv,ok,ov,T,gk,gv,nk,nv,M⟩:=hX;rw[hZ] at hz;refine ur aB (ej N J g k q1 T hz) (av u N) ?_;have z:H.le (s.H.aU c2 (.row 101 0 5 [[.seq 5 (f.map pF),.seq 2 (E.map pD),dk,dv,.seq 2 LR]])):=aQ aM ar;have bo:Gl H 60 2 ((qe f.length n (nH b)).map pD) dk (s.H.aU c2 (.row 101 0 5 [[.seq 5 (f.map pF),.seq 2 (E.map pD),dk,dv,.seq 2 LR]])) ok:=gk.cM λc h=>aJ λe=>nk.1 (by rw[h,e]);have bq:Gl H 60 2 ((qe f.length n (oT b)).map pD) dv (s.H.aU c2 (.row 101 0 5 [[.seq 5 (f.map pF),.seq 2 (E.map pD),dk,dv,.seq 2 LR]])) ov:=gv.cM λc h=>aJ λe=>nv.1 (by rw[h,e]);refine⟨_,aF _,z,.eO [.agg [.seq 5 (f.map pF),.seq 2 (E.map pD),.seq 2 ((qe f.length n (nH b)).map pD),.seq 2 ((qe f.length n (oT b)).map pD),.seq 2 LR],i64 0],lI ?_,S,hS,by rw[b4] <;> rfl⟩;refine⟨yd ?_,aL z,trivial⟩;exact⟨aL z,aL z,da z bo,da z bq,aL z,trivial⟩
 have ap:(i:Int)<(f.length:Int):=by omega
 have q1:((i:Int)<(f.length:Int))=True:=aG ap;have w3:=wS i;obtain⟨l,hl⟩:=oX f[i];have b1:l∈pg b:=by rw[<-a9,hl];exact ao _
 have a4:(pg b)[i]?=some l:=by rw[<-a9,hl];exact az a3
 have bt:(List.map pF f)[i]?=some [i64 l.rg,i64 l.pt,.val (.bool l.mu),i64 l.pl.lo,.seq 2 (l.pl.pr.map pD)]:=by rw[hl];exact bZ a3
 refine tq (bG P m g k q1 bt bb (cA hx br a3 ap)) ?_;intro U Y O C;intro b9 b5;refine Y _ ?_;refine cm 9 b5 ?_;have c3:qe i n (nH b)=qe i n (nH b)++ER (nH b) i 0:=by simp [ER,my]
 have c7:qe i n (oT b)=qe i n (oT b)++ER (oT b) i 0:=by simp [ER,my]
 refine tn P ?_;refine aO n (λp s=>ExS b c2 c6 n f i s/\s.fr 8=i64 i/\s.fr 9=.rp [i64 l.rg,i64 l.pt,.val (.bool l.mu),i64 l.pl.lo,.seq 2 (l.pl.pr.map pD)]/\s.fr 40=i64 n/\s.fr 41=i64 p/\Qr H c2 c6 Z (.seq 5 (f.map pF)) (.seq 2 (E.map pD)) (.seq 2 LR) (qe i n (nH b)++ER (nH b) i p) (qe i n (oT b)++ER (oT b) i p) s.H) ⟨⟨u,I,N,J,P,m,g,k⟩,rfl,rfl,rfl,rfl,by rw[<-c3,<-c7];exact hX⟩ ?_;clear hX k g m P J N I u b5;clear s;rintro p s hp ⟨⟨u,I,N,J,P,m,g,k⟩,f8,f9,w,x,hX⟩;unfold cu at I;have ci:=aX p;have b3:=aZ p;by_cases bc:p<n
 case neg=>
  have q2:=nF ((p:Int)<(n:Int));have c5:p=n:=by omega
  subst c5;rw[<-Ai,<-Ai] at hX;refine tn (cw k w x q2 w3) ?_;exact⟨a3,⟨u,I,N,J,P,m,g,rfl⟩,hX⟩
 have a8:(p:Int)<(n:Int):=by omega
 have q2:((p:Int)<(n:Int))=True:=aG a8;have w4:=wS p;(iterate 10 (refine tk (bQ w x q2) ?_;intro U Y O C));have ba:nH b i p↔KR b p l:=⟨λ⟨l',R,h2⟩=>by rw[hx,a4] at R;injection R with R;rw[R];exact h2,λh=>⟨l,by rw[hx];exact a4,h⟩⟩;have bf:oT b i p↔KP b p l:=⟨λ⟨l',R,h2⟩=>by rw[hx,a4] at R;injection R with R;rw[R];exact h2,λh=>⟨l,by rw[hx];exact a4,h⟩⟩;have cd:=yt (nH b) i n;have cc:=ES (nH b) i p;have ch:=yt (oT b) i n;have ce:=ES (oT b) i p;have c9:i * n<=10000 * 130:=kD (by omega) b8;have a0:=GC (nH b) i p;have a2:=GC (oT b) i p;refine nR (λs=>ExS b c2 c6 n f i s/\s.fr 8=i64 i/\s.fr 9=.rp [i64 l.rg,i64 l.pt,.val (.bool l.mu),i64 l.pl.lo,.seq 2 (l.pl.pr.map pD)]/\s.fr 40=i64 n/\s.fr 41=i64 p/\s.fr 10=i64 p/\Qr H c2 c6 Z (.seq 5 (f.map pF)) (.seq 2 (E.map pD)) (.seq 2 LR) (qe i n (nH b)++ER (nH b) i (p+1)) (qe i n (oT b)++ER (oT b) i p) s.H) ?_ ?_
 ·obtain⟨B,hB,hd⟩:=b0 p l b1 b3 (by rw[<-hn];exact a8) s.H
  unfold pF at hd;obtain⟨aM,hz,dk,dv,ok,ov,T,gk,gv,nk,nv,M⟩:=hX;refine tq (av I f9) ?_;intro U Y O C;refine hd.mono ?_;rintro d _ ⟨rfl,V⟩;cases B
  ·rw[aC (λh=>by have:=hB.2 (ba.1 h);cases this),bz] at a0
   refine tz ?_;exact⟨⟨u,I,N,J,P,m,g,k⟩,f8,f9,w,x,rfl,by rw[a0];exact V▸⟨aM,hz,dk,dv,ok,ov,T,gk,gv,nk,nv,M⟩⟩
  ·rw[aD (ba.2 (hB.1 rfl))] at a0
   rw[<-V];refine tq (bQ J f8 T) ?_;intro U Y O C;have al:((qe i n (nH b)++ER (nH b) i (p+1)).map pD)=(qe i n (nH b)++ER (nH b) i p).map pD++[pD ((i:Int),(p:Int))]:=by rw[a0];simp only[bI,cC,fw,bE]
   refine ax (e:=60) qm rfl qm rfl Bi rfl (by decide) aM gk (new:=[pD ((i:Int),(p:Int))]) (by exact⟨rfl,rfl⟩) (by rw[aS,aV];show(_+1) * 16<=_;omega) λd H6 c8 G a6 a1=>?_;rw[<-al] at G;have aa:=Qr.ZT a7 (Ne.symm am) hz T gv nk nv M G a6 a1;have k6:=(a1 _ _ T nk.2).1;have ad:∃c o n,d=.os c o 2 0 n:=by
    rcases G with⟨_,_,h⟩|⟨c,o,_,h,_⟩
    ·simp [a0] at h
    ·exact⟨c,o,_,h⟩
   obtain⟨c',o',n',rfl⟩:=ad;refine eV k6 ?_;refine nx ?_;exact⟨⟨u,I,N,J,P,m,g,k⟩,f8,f9,w,x,rfl,aa⟩
 clear hX x w f9 f8 k g m P J N I u;rintro s ⟨⟨u,I,N,J,P,m,g,k⟩,f8,f9,w,x,b2,hX⟩;unfold cu at I;obtain⟨B,hB,hd⟩:=aw p l b1 b3 (by rw[<-hn];exact a8) s.H;unfold pF at hd;obtain⟨aM,hz,dk,dv,ok,ov,T,gk,gv,nk,nv,M⟩:=hX;refine tq (bQ I f9 b2) ?_;intro U Y O C;refine hd.mono ?_;rintro d _ ⟨rfl,V⟩;cases B
 ·rw[aC (λh=>by have:=hB.2 (bf.1 h);cases this),bz] at a2
  refine tn (av x w4) ?_;exact⟨bc,⟨u,I,N,J,P,m,g,k⟩,f8,f9,w,rfl,by rw[a2];exact V▸⟨aM,hz,dk,dv,ok,ov,T,gk,gv,nk,nv,M⟩⟩
 ·rw[aD (bf.2 (hB.1 rfl))] at a2
  rw[<-V];refine tq (cA J f8 b2 T) ?_;intro U Y O C;have al:((qe i n (oT b)++ER (oT b) i (p+1)).map pD)=(qe i n (oT b)++ER (oT b) i p).map pD++[pD ((i:Int),(p:Int))]:=by rw[a2];simp only[bI,cC,fw,bE]
  refine ax (e:=60) qm rfl qm rfl Bi rfl (by decide) aM gv (new:=[pD ((i:Int),(p:Int))]) (by exact⟨rfl,rfl⟩) (by rw[aS,aV];show(_+1) * 16<=_;omega) λd H6 c8 G a6 a1=>?_;rw[<-al] at G;have aa:=Qr.ZU a7 (Ne.symm am) hz T gk nk nv M G a6 a1;have k6:=(a1 _ _ T nv.2).1;have ad:∃c o n,d=.os c o 2 0 n:=by
   rcases G with⟨_,_,h⟩|⟨c,o,_,h,_⟩
   ·simp [a2] at h
   ·exact⟨c,o,_,h⟩
  obtain⟨c',o',n',rfl⟩:=ad;refine eV k6 ?_;refine nx ?_;refine tn (av x w4) ?_;exact⟨bc,⟨u,I,N,J,P,m,g,k⟩,f8,f9,w,rfl,aa⟩
end Go.Proofs.YtffgfafbffdgaaaGreatDoor
