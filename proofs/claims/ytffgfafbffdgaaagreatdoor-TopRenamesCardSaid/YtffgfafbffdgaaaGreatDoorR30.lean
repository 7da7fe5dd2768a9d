/- Lemmas and contracts of functions, several texts in one. -/
import Derived.Test.YtffgfafbffdgaaaGreatDoorR29
set_option maxRecDepth 100000
set_option maxHeartbeats 4000000
set_option linter.all false
namespace Go.Proofs.YtffgfafbffdgaaaGreatDoor
open Go.RowKit
open Tryz
variable {S:List (Int×Int)}{p y:Int}{l:pT}{t:ra}{s:qO}{x:im}{k:Nat}{a b:ByteArray}
theorem SF {g:FuncId}{f:List D}(H:aA):aN prog 182 [.val (.slice none 0 0),.fn g f] H λd H'=>d=i64 (-1)/\H=H':=by
 refine dO func182 ntmps182 results182 λu o Q e=>?_;refine tz ?_;refine aO 0 (λi s=>s.df=[]/\s.fr 7=i64 0/\s.fr 8=i64 i/\s.H=H) ⟨rfl,rfl,rfl,rfl⟩ ?_;rintro i s r ⟨c,h,j,m⟩;have n:=nF ((i:Int)<0);refine ur e (bQ h j n) c ?_;exact⟨_,aF _,m.symm⟩
theorem Rk {g:FuncId}{e:List D}(H:aA):aN prog 100 [.val (.slice none 0 0),.fn g e] H λd H'=>d=.val (.slice none 0 0)/\H=H':=by
 refine dO func100 ntmps100 results100 λh f Q c=>?_;refine t0 ?_;intro U Y O C;refine(SF _).q ?_;refine u0 c ?_;exact⟨_,aF _,by first|rfl|exact⟨rfl,rfl⟩⟩
theorem Xf (r:List pT)(E K V L:List (Int×Int))(u v o w:Nat)(y:Int×Int)(H:aA)(m:∀y∈V,du y.1/\du y.2)(n:du y.1/\du y.2)(hm:H o=some (.map (yO (kO [] V)))):
  aN prog 102 [.agg [i64 y.1,i64 y.2],.rp [JP r E K V L u v o w]] H λd H'=>d=.val (.bool (decide (y∉V)))/\H=H':=by
 have f:=Ey (S:=kO [] V) (λx z=>m x (by rcases jt.1 z with h|h;cases h;exact h)) (x:=y) n;simp only[pk] at f;unfold JP;refine dO func102 ntmps102 results102 λG B Q g=>?_;refine t0 ?_;intro U Y O C;intro A j;refine Y _ ?_;refine cm 2 j ?_;refine bW ?_;by_cases i:y∈V
 ·have c:=Gp (S:=kO [] V) (x:=y) (jt.2 (.inr i))
  simp only[pk] at c;have e:decide (y∉V)=false:=by simp [i]
  rw[e] at g;refine dE (λ_ _ _ _=>False) λU Y=>?_;refine dst (av hm c) ?_;intro U Y O C;refine⟨f,?_⟩;refine Y _ ?_;refine u0 g ?_;exact⟨_,aF _,by first|rfl|exact⟨rfl,rfl⟩⟩
 ·have c:=Cu (S:=kO [] V) (x:=y) (λh=>by rcases jt.1 h with h|h;cases h;exact i h)
  simp only[pk] at c;have e:decide (y∉V)=true:=by simp [i]
  rw[e] at g;refine dE (λ_ _ _ _=>False) λU Y=>?_;refine dst (av hm c) ?_;intro U Y O C;refine⟨f,?_⟩;refine Y _ ?_;refine u0 g ?_;exact⟨_,aF _,by first|rfl|exact⟨rfl,rfl⟩⟩
def VdL (c:List pT) (E K V L:List (Int×Int)) (R:List (Int×Int)):Prop:=R.Pairwise Oo/\∀y,y∈R↔(y.1<c.length/\ScL c E K L y)/\y∈V
theorem Px (h:S.Nodup):(en S).Pairwise Oo:=by
 have c:(en S).Nodup:=(tK S _).nodup_iff.2 h;refine List.Pairwise.imp (λ{a b} h=>?_) (List.Pairwise.and (BB S) c);obtain⟨f,c⟩:=h;unfold mH at f;unfold Oo;have:¬(a.1=b.1/\a.2=b.2):=λe=>c (mc e.1 e.2);omega
theorem Xe {c:List pT}{E K V L:List (Int×Int)}{n:Nat}(h:Xi c E K L n c.length S):VdL c E K V L (tW (λy=>decide (y∉V)) (en S)):=by
 refine⟨(Px h.nd).filter _,λy=>?_⟩;unfold tW;rw[fN,sy,h.mem];simp
theorem Xg (f:List pT)(E K V L:List (Int×Int))(n:Nat)(H:aA)(hn:n<=300)(w:f.length<=10000)(hK:cH K.length)(hV:cH V.length)(hL:cH L.length)(hE:E.length<=1000000)(J:∀y∈K,du y.1/\du y.2)(j:∀y∈V,du y.1/\du y.2)(M:∀y∈L,du y.1/\du y.2)(eR:∀y∈E,bN n y.1/\bN n y.2)(rR:∀l∈f,du l.rg/\bN n l.pt):
  aN prog 45 [.agg (Uh f E K V L)] H λd H'=>(∃R,VdL f E K V L R/\d=.seq 2 (R.map pD))/\H=H':=by
 have a1:∀y∈E,du y.1/\du y.2:=λy I=>by have:=eR y I;unfold bN at this;unfold du;omega
 have B:=λN=>Uq f E K V L N hK hV hL hE J j M a1;have A:=λN=>W8 f E K V L n N hn w hK hV hL hE J j M eR rR;refine aq (K:=λd=>∃R,VdL f E K V L R/\d=.seq 2 (R.map pD)) ?_;unfold Uh at B A ⊢;refine dO func45 ntmps45 results45 λw0 g0 Q aB=>?_;refine t0 ?_;intro U Y O C;intro c1 a3;refine Y _ ?_;refine cm 1 a3 ?_;refine t0 ?_;intro U Y O C;refine(B _).mono ?_;rintro d N ⟨b1,b2,T,b4,m1,rfl,r,rV,a6⟩;have G:=λy H2 a8 hm=>Xf f E K V L b1 b2 T b4 y H2 j a8 hm;obtain⟨X,hX⟩:∃X,JP f E K V L b1 b2 T b4=.rp X:=⟨_,rfl⟩;rw[hX] at G ⊢;refine t0 ?_;intro U Y O C;intro c3 a4;refine Y _ ?_;refine cm 3 a4 ?_;refine t0 ?_;intro U Y O C;refine(A _).mono ?_;rintro d H2 ⟨S,ob,hS,hg,v⟩;have i:=Xe (V:=V) hS;have ab:=hS.len;have a9:f.length * n<=10000 * 300:=kD w hn;have u:=iL r v;have g:=v _ _ a6.m3;have a0:∀y∈en S,du y.1/\du y.2:=λy I=>by
  obtain⟨h1,l,h2,_,h3⟩:=(hS.mem y).1 (sy.1 I);have h4:bN n y.2:=by
   cases h3 with
   |one h=>exact(eR _ (ve.1 h).2.1).2
   |step _ h=>exact(eR _ (ve.1 h).2.1).2
  unfold bN at h4;unfold du;omega
 rcases hg with⟨_,Z,e2⟩|⟨c,o,e0,Z,e2,e3⟩
 ·have a7:en S=[]:=by simpa using e2
  rw[a7] at i;subst Z;refine t0 ?_;intro U Y O C;refine(Rk _).q ?_;refine u0 aB ?_;exact⟨_,aF _,u,.seq 2 [],iq,[],i,rfl⟩
 ·rw[aS] at Z
  subst Z;have a5:T≠c:=λe=>by rw[e,e3] at g;cases g
  refine t0 ?_;intro U Y O C;refine(WG (p:=λy=>decide (y∉V)) (P:=λHs=>Hs T=some (.map (yO (kO [] V)))) (λy I H3 a2=>G y H3 (a0 y I) a2) (λaa=>(aJ a5).trans g) e3 (by rw[jV];omega)).mono ?_;rintro d _ ⟨rfl,rfl⟩;refine u0 aB ?_;have z:=gA r e2;have m:H.le (H2.aU c (.row 60 o 2 ((tW (λy=>decide (y∉V)) (en S)).map pD))):=aQ u z;exact⟨_,aF _,m,_,nY (k:=0) m (aK _ _ _) z (by rw[aS];omega),_,i,by rw[dj,bK (by rw[aS];omega)]⟩
theorem Md (b:bn)(u:∀y,y∈S↔KS b y.1 y.2)(y:Int×Int)(hy:y.1<(pg b).length):
  ScL (pg b) (oh (fD b)) (qe (pg b).length (bu (fD b)) (nH b)) (en S) y↔∃l,0<=y.1/\(pg b)[y.1.toNat]?=some l/\RI b l y.2:=by
 have g:∀l,0<=y.1->(pg b)[y.1.toNat]?=some l->∀p q,q∈Gg (oh (fD b)) (qe (pg b).length (bu (fD b)) (nH b)) (en S) y.1 l.rg p↔Xk b l p q:=λl f e p q=>by
  rw[ve,sM,sy,u,ym];unfold Xk;constructor
  ·rintro⟨m,i,n⟩
   refine⟨λo=>m ⟨⟨f,hy⟩,⟨i.lt.1.1,i.lt.1.2⟩,l,e,o⟩,i,n⟩
  ·rintro⟨m,i,n⟩
   refine⟨λ⟨_,_,v,c,o⟩=>m ?_,i,n⟩;simp only at c;rw[e] at c;injection c with c
   rw[c];exact o
 constructor
 ·rintro⟨l,f,e,j⟩
  refine⟨l,f,e,?_⟩;generalize y.2=p at j ⊢
  induction j with
  |one h=>exact .one ((g l f e _ _).1 h)
  |step _ h r=>exact .step r ((g l f e _ _).1 h)
 ·rintro⟨l,f,e,j⟩
  refine⟨l,f,e,?_⟩;generalize y.2=p at j ⊢
  induction j with
  |one h=>exact .one ((g l f e _ _).2 h)
  |step _ h r=>exact .step r ((g l f e _ _).2 h)
theorem UX (b:bn){R:List (Int×Int)}(m:∀y,y∈S↔KS b y.1 y.2)(h:VdL (pg b) (oh (fD b)) (qe (pg b).length (bu (fD b)) (nH b)) (qe (pg b).length (bu (fD b)) (oT b)) (en S) R):R=x8 b:=
 Oq h.1 (Gc b) λy=>by
  rw[h.2,Ow,ym];unfold VP;constructor
  ·rintro⟨⟨f,e⟩,_,_,o,c,g⟩
   obtain⟨l,i,j,n⟩:=(Md b m y f).1 e;rw[j] at c;injection c with c
   subst c;exact⟨l,i,j,n,g⟩
  ·rintro⟨l,f,e,c,g⟩
   have i:=(gI.1 e).1;exact⟨⟨by omega,(Md b m y (by omega)).2 ⟨l,f,e,c⟩⟩,⟨f,by omega⟩,c.lt,l,e,g⟩
structure Xx (b:bn):Prop where
 ex:Qs b
 lr:∀l∈pg b,du l.rg/\bN (bu (fD b)) l.pt
theorem O9 (b:bn)(H:aA)(ok:Xx b):aN prog 12 [.agg (cu b)] H λd H'=>d=.eO [.seq 2 ((x8 b).map pD),i64 0]/\H=H':=by
 have f:=λi=>LW b i ok.ex;have e:=ok.ex.rg.lv.cn;have m:=ok.ex.ll;have n:=λP=>yt P (pg b).length (bu (fD b));have I:(pg b).length * bu (fD b)<=10000 * 130:=kD m e;have j:∀P,∀y∈qe (pg b).length (bu (fD b)) P,du y.1/\du y.2:=λP y h=>by
  obtain⟨r,E,_⟩:=ym.1 h;unfold du;omega
 have J:(oh (fD b)).length<=1000000:=ma (FL _) (by have:=kD e e;omega);have u:∀y∈oh (fD b),bN (bu (fD b)) y.1/\bN (bu (fD b)) y.2:=λy h=>by
  have:=(sM.1 h).lt;unfold bN;omega
 have c:=λS (w:S.length<=1300000) (L:∀y∈S,du y.1/\du y.2) i=>Xg (pg b) (oh (fD b)) (qe (pg b).length (bu (fD b)) (nH b)) (qe (pg b).length (bu (fD b)) (oT b)) (en S) (bu (fD b)) i (by omega) m (by have:=n (nH b);unfold cH;omega) (by have:=n (oT b);unfold cH;omega) (by rw[jV];unfold cH;omega) J (j _) (j _) (λy h=>L y (sy.1 h)) u ok.lr;have g:=λS R=>UX b (S:=S) (R:=R);have M:=ok.ex.rg.MX;obtain⟨N,v⟩:=oX ((pg b).map pF);unfold Uh at c;rw[<-v] at f c;unfold cu at f ⊢;refine dO func12 ntmps12 results12 λw0 Z Q G=>?_;refine t0 ?_;intro U Y O C;intro T A;refine Y _ ?_;refine cm 1 A ?_;refine t0 ?_;intro U Y O C;refine(f _).mono ?_;rintro d _ ⟨S,⟨z,w⟩,rfl,rfl⟩;have o:∀y∈S,du y.1/\du y.2:=λy h=>by
  have r:=(w y).1 h;have E:=Hg r;have h3:=Ot r;unfold bN at E;unfold du;omega
 have c:=λi=>c S z o i;have g:=λR=>g S R w;refine t0 ?_;intro U Y O C;intro V B;refine Y _ ?_;refine cm 4 B ?_;refine t0 ?_;intro U Y O C;refine(c _).mono ?_;rintro d _ ⟨⟨R,K,rfl⟩,rfl⟩;rw[g R K];refine u0 G ?_;exact⟨_,aF _,by first|rfl|exact⟨rfl,rfl⟩⟩
structure Tb (b:bn):Prop where
 ok:xM b
 sb:Sb b
 ck:Ck b
 ch:oM b=0
 cn:bu (fD b)<=130
 lc:b.lc.length<=20
 rg:b.rg.length<=10
 ar:∀x∈b.bl,(∀s∈x.st,s.rv.ar.length<=3000/\s.rv.pl.pr.length<=3000)/\x.tm.ar.length<=3000
section
variable {b:bn}
theorem Jy {p:gR}(h:(mB b p).2=0):bN b.lc.length p.lo:=by
 unfold mB bJ at h;split at h
 ·rename_i c;exact absurd h c
 ·rename_i c
  split at h
  ·cases h
  ·rename_i e
   have c:=fp.1 c;unfold gC at c;split at c
   ·cases c
   ·unfold bN;omega
theorem sl:∀{l:List gq}{fs:List Int},eM b l fs=0->∀o∈l,kx b o=0
 |[],_,_,o,h=>by cases h
 |p::l,fs,h,o,ho=>by
  simp only[eM] at h;split at h
  ·rename_i h1;exact absurd h h1
  ·rename_i h1
   rcases bV.1 ho with rfl|ho
   ·exact fp.1 h1
   ·cases fs with
    |nil=>exact sl h o ho
    |cons f fs=>
     simp only at h
     split at h
     ·cases h
     ·exact sl h o ho
theorem ZF {o:gq}(h:kx b o=0)(hk:o.k=0\/o.k=1):bN b.lc.length o.pl.lo:=by
 unfold kx at h;split at h
 ·cases h
 split at h
 ·cases h
 split at h
 ·cases h
 split at h
 ·omega
 split at h
 ·rename_i c;exact absurd h c
 ·rename_i c;exact Jy (fp.1 c)
theorem Um {l:List gq}(h:∀o∈l,kx b o=0)(hy:y∈tf l):bN b.lc.length y:=by
 unfold tf EK at hy;obtain⟨o,c,rfl⟩:=cD.1 hy;rw[fN,dF] at c;exact ZF (h o c.1) c.2
theorem XQ {r:tx}{t:Int}(h:Cd b r t=0):∀o∈r.ar,kx b o=0:=by
 unfold Cd at h;split at h
 ·cases h
 split at h
 ·cases h
 rename_i m i;split at h
 ·exact sl h
 split at h
 ·rename_i u j
  intro o g;have c:tv r=true:=by cases e:tv r;exact absurd e i;rfl
  unfold tv at c;rw[aD j,cX,dF,dF] at c;rw[cy c.2] at g;cases g
 have f:∀n x,oj b r t n x=0->∀o∈r.ar,kx b o=0:=λn x h=>by
  unfold oj at h;split at h
  ·cases h
  split at h
  ·rename_i c;exact absurd h c
  ·rename_i c;exact sl (fp.1 c)
 split at h
 ·exact f _ _ h
 split at h
 ·exact f _ _ h
 split at h
 ·cases h
 ·exact sl h
theorem IK {r:tx}{t:Int}(h:Cd b r t=0)(hk:r.k=1):bN b.lc.length r.pl.lo/\bN b.rg.length r.rg:=by
 unfold Cd at h;rw[aC (by omega)] at h;split at h
 ·cases h
 rw[aC (by omega)] at h;unfold vE at h;split at h
 ·rename_i c;exact absurd h c
 rename_i c;split at h
 ·cases h
 ·exact⟨Jy (fp.1 c),by unfold bN;omega⟩
theorem ZP {r:tx}{t:Int}(h:Cd b r t=0):bN b.lc.length r.pl.lo\/r.pl.lo=0:=by
 by_cases g:r.k=1
 ·exact .inl (IK h g).1
 ·unfold Cd at h
  split at h
  ·cases h
  split at h
  ·cases h
  rename_i j i;have c:tv r=true:=by cases e:tv r;exact absurd e i;rfl
  unfold tv at c;rw[aC g,cX,cX] at c;have f:=c.1.2;unfold dU at f;rw[cX,dF] at f;exact .inr f.1
theorem Qc {p:gR}(h:qy b p=0):bN b.lc.length p.lo:=by
 unfold qy at h;split at h
 ·rename_i c;exact absurd h c
 ·rename_i c;exact Jy (fp.1 c)
theorem UC (h:yY b s=0)(hk:s.k=0):bN b.lc.length s.pl.lo/\Cd b s.rv (mB b s.pl).1=0:=by
 unfold yY at h;rw[aD hk] at h;split at h
 ·cases h
 split at h
 ·rename_i c;exact absurd h c
 ·rename_i c;exact⟨Qc (fp.1 c),h⟩
theorem aCt (h:yY b s=0)(hk:s.k=1):bN b.lc.length s.lo:=by
 unfold yY at h;rw[aC (by omega),aD hk] at h;split at h
 ·cases h
 split at h
 ·cases h
 ·unfold bN;omega
theorem UJ (h:tw b t=0):nX t=true/\0<=t.k/\t.k<=5:=by
 unfold tw at h;split at h
 ·cases h
 split at h
 ·cases h
 rename_i f c;exact⟨by cases e:nX t;exact absurd e c;rfl,by omega,by omega⟩
theorem Z6 (h:tw b t=0):t.tg.length<=2:=by
 have c:=(UJ h).1;unfold nX at c;repeat' split at c
 all_goals (simp only[cX,dF] at c;omega)
theorem X5 (h:tw b t=0):∀o∈t.ar,kx b o=0:=by
 obtain⟨e,r,u⟩:=UJ h;unfold nX at e;unfold tw at h;rw[aC (by omega)] at h;split at h
 ·cases h
 split at h
 ·cases h
 by_cases g:t.k=1
 ·rw[aC (by omega),aD g] at e
  simp only[cX,dF] at e;rw[aD g] at h;split at h
  ·rename_i c;exact absurd h c
  rename_i c;intro o f;have m:=e.1.1.2;obtain⟨a,i⟩:=zA.1 m;have n:BS t=a:=by unfold BS;rw[i];rfl
  rw[i,bM] at f;rw[f,<-n];exact fp.1 c
 by_cases j:t.k=3
 ·rw[aC g,aD j] at h
  split at h
  ·cases h
  split at h
  ·cases h
  split at h
  ·rename_i c;exact absurd h c
  ·rename_i c;exact sl (fp.1 c)
 have:t.ar.length=0:=by
  rw[aC g,aC j] at e;repeat' split at e
  all_goals (simp only[cX,dF] at e;omega)
 intro o f;rw[cy this] at f;cases f
theorem QI (h:tw b t=0)(hk:t.k=3\/t.k=4):bN b.lc.length t.pl.lo:=by
 obtain⟨g,e,f⟩:=UJ h;unfold tw at h;rw[aC (by omega)] at h;split at h
 ·cases h
 split at h
 ·cases h
 rw[aC (by omega)] at h;rcases hk with hk|hk
 ·rw[aD hk] at h
  split at h
  ·cases h
  split at h
  ·cases h
  split at h
  ·rename_i c;exact absurd h c
  ·exact Qc h
 ·rw[aC (by omega),aD hk] at h
  split at h
  ·rename_i c;exact absurd h c
  ·rename_i c;exact Jy (fp.1 c)
theorem Ju:∀{l:List qO},rZ b l=0->∀s∈l,yY b s=0
 |[],_,s,h=>by cases h
 |p::l,h,s,hs=>by
  simp only[rZ] at h;split at h
  ·rename_i h1;exact absurd h h1
  ·rename_i h1
   rcases bV.1 hs with rfl|hs
   ·exact fp.1 h1
   ·exact Ju h s hs
theorem Ij:∀{l:List im},rn b l=0->∀x∈l,x.st.length<=65535/\(∀s∈x.st,yY b s=0)/\tw b x.tm=0
 |[],_,s,h=>by cases h
 |p::l,h,s,hs=>by
  simp only[rn] at h;split at h
  ·cases h
  rename_i h0;split at h
  ·rename_i h1;exact absurd h h1
  rename_i h1;split at h
  ·rename_i h2;exact absurd h h2
  rename_i h2;rcases bV.1 hs with rfl|hs
  ·exact⟨by omega,Ju (fp.1 h1),fp.1 h2⟩
  ·exact Ij h s hs
theorem nU (h:oM b=0):nC b=0/\∀x∈b.bl,x.st.length<=65535/\(∀s∈x.st,yY b s=0)/\tw b x.tm=0:=by
 unfold oM at h;split at h
 ·rename_i c;exact absurd h c
 ·rename_i c;exact⟨fp.1 c,Ij h⟩
theorem Qb {p:gR}(h:bN b.lc.length p.lo)(hy:y∈I2 p):bN b.lc.length y:=by
 unfold I2 at hy;split at hy
 ·cases hy
 ·rw[bM] at hy;rw[hy];exact h
theorem Qa {p:gR}(h:bN b.lc.length p.lo)(hy:MZ p=some y):bN b.lc.length y:=by
 unfold MZ at hy;split at hy
 ·injection hy with hy;rw[<-hy];exact h
 ·cases hy
theorem aBK (h:yY b s=0)(hy:y∈usS s):bN b.lc.length y:=by
 unfold usS at hy;split at hy
 ·rename_i g
  obtain⟨f,e⟩:=UC h g;rcases bB.1 hy with hy|hy
  ·exact Um (XQ e) hy
  rcases bB.1 hy with hy|hy
  ·split at hy
   ·rename_i c
    rw[bM] at hy;rw[hy];exact(IK e c).1
   ·cases hy
  ·exact Qb f hy
 ·cases hy
theorem aBL (h:tw b t=0)(hy:y∈Xu t):bN b.lc.length y:=by
 unfold Xu at hy;rcases bB.1 hy with hy|hy
 ·exact Um (X5 h) hy
 split at hy
 ·rename_i c;exact Qb (QI h (.inl c)) hy
 split at hy
 ·rename_i c;rw[bM] at hy;rw[hy];exact QI h (.inr c)
 ·cases hy
theorem Y8 (h:yY b s=0)(hy:dfS s=some y):bN b.lc.length y:=by
 unfold dfS at hy;split at hy
 ·rename_i c;exact Qa (UC h c).1 hy
 split at hy
 ·rename_i c;injection hy with hy;rw[<-hy];exact aCt h c
 ·cases hy
theorem Y9 (h:tw b t=0)(hy:Y7 t=some y):bN b.lc.length y:=by
 unfold Y7 at hy;split at hy
 ·rename_i c;exact Qa (QI h (.inl c)) hy
 ·cases hy
theorem Q0 (h:oM b=0)(hx:x∈b.bl)(hy:y∈Er x k):bN b.lc.length y:=by
 obtain⟨_,c,f⟩:=(nU h).2 x hx;unfold Er at hy;split at hy
 ·rename_i s e;exact aBK (c s (eh e)) hy
 ·exact aBL f hy
theorem WJ (h:oM b=0)(hx:x∈b.bl)(hy:CI x k=some y):bN b.lc.length y:=by
 obtain⟨_,c,f⟩:=(nU h).2 x hx;unfold CI at hy;split at hy
 ·rename_i s e;exact Y8 (c s (eh e)) hy
 ·exact Y9 f hy
theorem vC (h:BW b p x k):x∈b.bl:=by
 obtain⟨i,c,_,rfl⟩:=h;exact ao _
theorem Yv (h:oM b=0){x:Int}(hl:zU b p x):bN b.lc.length x:=by
 induction hl with
 |use c e=>exact Q0 h (vC c) e
 |step _ _ _ _ f=>exact f
theorem J1:∀{l:List qO}{p:Int}{z:pT},z∈CW p l->(p<=z.pt/\z.pt<p+l.length)/\∃s∈l,s.k=0/\s.rv.k=1/\z.rg=s.rv.rg/\z.pl=s.rv.pl
 |[],_,_,h=>by cases h
 |s::l,p,z,h=>by
  rw[CW,bB] at h;rw[bx];rcases h with h|h
  ·unfold J0 at h
   split at h
   ·rename_i hk
    rw[bM] at h;subst h;exact⟨⟨kJ _,by simp only;omega⟩,s,by simp,hk.1,hk.2,rfl,rfl⟩
   ·cases h
  ·obtain⟨h1,c,h2,h3⟩:=J1 h
   exact⟨⟨by omega,by omega⟩,c,dH _ h2,h3⟩
theorem Dw:∀{l:List im}{p:Int}{z:pT},z∈Fe p l->(p<=z.pt/\z.pt<p+bu (l.map λx=>(x.st.length,x.tm.tg)))/\∃x∈l,∃s∈x.st,s.k=0/\s.rv.k=1/\z.rg=s.rv.rg/\z.pl=s.rv.pl
 |[],_,_,h=>by cases h
 |x::l,p,z,h=>by
  rw[Fe,bB] at h;have e:bu ((x::l).map λx=>(x.st.length,x.tm.tg))=x.st.length+1+bu (l.map λx=>(x.st.length,x.tm.tg)):=by simp only[cC,bu]
  rw[e];rcases h with h|h
  ·obtain⟨g,s,c,f⟩:=J1 h
   exact⟨⟨g.1,by omega⟩,x,by simp,s,c,f⟩
  ·obtain⟨g,y,c,f⟩:=Dw h
   exact⟨⟨by omega,by omega⟩,y,dH _ c,f⟩
end
def yE (p:ByteArray) (m:ra):ra:=if m.k=3 then ⟨m.k,m.tg,m.ar,m.pl,p++m.nm⟩ else m
def yX (p:ByteArray) (x:im):im:=⟨x.st,yE p x.tm⟩
def EW (p:ByteArray) (x:mQ):mQ:=⟨p++x.nm,x.ty⟩
def jR (p:ByteArray) (b:bn):bn:=⟨p++b.nm,b.rg.map (p++·),b.ol,b.ty,b.lc.map (EW p),b.ag,b.bl.map (yX p)⟩
theorem ET {p:ByteArray}:p++a=p++b↔a=b:=by
 constructor
 ·intro h
  have c:=ai (λx:ByteArray=>x.data.toList) h;simp only[ByteArray.data_append,Array.toList_append] at c;have e:=List.append_cancel_left c;cases a;cases b;congr 1;exact Array.toList_inj.1 e
 ·intro h;rw[h]
theorem PZ {p:ByteArray}:(p++a).toList<(p++b).toList↔a.toList<b.toList:=by
 simp only[ByteArray.toList_eq,ByteArray.data_append,Array.toList_append]
 induction p.data.toList with
 |nil=>exact Iff.rfl
 |cons x l c=>simp only[dJ,List.cons_lt_cons_iff];simp [c]
def kS (x:im):List qO×Int×List Int×List gq×gR:=(x.st,x.tm.k,x.tm.tg,x.tm.ar,x.tm.pl)
structure Sk (b c:bn):Prop where
 ty:b.ty=c.ty
 ol:b.ol=c.ol
 rg:b.rg.length=c.rg.length
 lc:b.lc.map (λx=>x.ty)=c.lc.map λx=>x.ty
 bl:b.bl.map kS=c.bl.map kS
theorem Yn (p:ByteArray)(x:im):kS (yX p x)=kS x:=by
 unfold kS yX yE;split <;> rfl
theorem Uv (p:ByteArray)(b:bn):Sk (jR p b) b where
 ty:=rfl
 ol:=rfl
 rg:=aS _
 lc:=by show List.map _ (List.map _ _)=_;rw[gL];rfl
 bl:=by
  show List.map _ (List.map _ _)=_;rw[gL];exact pf λx _=>Yn p x
section
variable {b c:bn}
theorem Sk.symm (h:Sk b c):Sk c b:=⟨h.ty.symm,h.ol.symm,h.rg.symm,h.lc.symm,h.bl.symm⟩
theorem Sk.gr (h:Sk b c):fD b=fD c:=by
 have:=ai (List.map λy:List qO×Int×List Int×List gq×gR=>(y.1.length,y.2.2.1)) h.bl;rw[gL,gL] at this;exact this
theorem Sk.at (h:Sk b c):BW b p x k->∃y,BW c p y k/\kS y=kS x:=by
 rintro⟨i,g,f,rfl⟩;have e:i<c.bl.length:=by
  have:=ai List.length h.bl;rw[aS,aS] at this;omega
 refine⟨c.bl[i],⟨i,e,h.gr▸f,rfl⟩,?_⟩;have:=ai (λl:List (List qO×Int×List Int×List gq×gR)=>l[i]?) h.bl;simp only[bg,az g,az e,gJ,iJ] at this;exact this.symm
theorem Fa {y:im}(h:kS y=kS x):y.st=x.st/\y.tm.k=x.tm.k/\y.tm.tg=x.tm.tg/\y.tm.ar=x.tm.ar/\y.tm.pl=x.tm.pl:=by simpa only[kS,Prod.mk.injEq] using h
theorem aDI {y:im}(h:kS y=kS x)(k:Nat):Er y k=Er x k:=by
 obtain⟨e,f,j,g,i⟩:=Fa h;unfold Er Xu;rw[e,f,g,i]
theorem aCf {y:im}(h:kS y=kS x)(k:Nat):CI y k=CI x k:=by
 obtain⟨e,f,i,j,g⟩:=Fa h;unfold CI Y7;rw[e,f,g]
theorem Yk {y:im}(h:kS y=kS x)(k:Nat)(l:pT):HY y k l=HY x k l:=by
 obtain⟨e,f,j,g,i⟩:=Fa h;unfold HY Mj acT;rw[e,f,g,i]
theorem Yq {y:im}(h:kS y=kS x)(k:Nat)(l:pT):Dr y k l=Dr x k l:=by
 obtain⟨e,f,i,j,g⟩:=Fa h;unfold Dr asB;rw[e,f,g]
theorem Sk.lv (h:Sk b c){x:Int}(hl:zU b p x):zU c p x:=by
 induction hl with
 |use g m=>
  obtain⟨y,e,f⟩:=h.at g
  exact .use e (by rw[aDI f];exact m)
 |step g i j _ n=>
  obtain⟨y,e,f⟩:=h.at g
  exact .step e (by rw[aCf f];exact i) (h.gr▸j) n
theorem Sk.tyl (h:Sk b c)(x:Int):KA b x=KA c x:=by
 have:=ai (λl:List Int=>l[x.toNat]?) h.lc;simp only[bg] at this;unfold KA;cases e1:b.lc[x.toNat]? <;> cases e2:c.lc[x.toNat]? <;> rw[e1,e2] at this <;> simp only[gJ,Option.map_none,iJ,reduceCtorEq] at this
 all_goals first|rfl|exact this
theorem Sk.lvr (h:Sk b c){r:Int}:KS b r p->KS c r p:=by
 rintro⟨x,m,e,f,g⟩;exact⟨x,m,h.lv e,by rw[<-h.tyl,<-h.ty];exact f,by rw[<-h.ol,<-h.rg];exact g⟩
theorem Sk.kil (h:Sk b c):KR b p l->KR c p l:=by
 rintro⟨x,k,e,f⟩;obtain⟨y,g,i⟩:=h.at e;exact⟨y,k,g,by rw[Yq i];exact f⟩
theorem Sk.inv (h:Sk b c):KP b p l->KP c p l:=by
 rintro⟨x,k,e,f⟩;obtain⟨y,g,i⟩:=h.at e;exact⟨y,k,g,by rw[Yk i];exact f⟩
theorem Sk.yZ (h:Sk b c){q:Int}:Xk b l p q->Xk c l p q:=
 λ⟨e,f,g⟩=>⟨λi=>e (h.symm.kil i),h.gr▸f,h.lvr g⟩
theorem Sk.scp (h:Sk b c)(hs:RI b l p):RI c l p:=by
 induction hs with
 |one e=>exact .one (h.yZ e)
 |step _ e f=>exact .step f (h.yZ e)
theorem Oe:∀{l m:List im}(p:Int),l.map kS=m.map kS->Fe p l=Fe p m
 |[],[],_,_=>rfl
 |x::l,y::m,p,h=>by
  rw[cC,cC,rI] at h;simp only[Fe];rw[(Fa h.1).1,Oe _ h.2]
 |[],_::_,_,h=>by cases h
 |_::_,[],_,h=>by cases h
theorem Sk.vp (h:Sk b c){i:Int}:VP b i p->VP c i p:=by
 rintro⟨l,e,f,g,j⟩;exact⟨l,e,by unfold pg;rw[<-Oe 0 h.bl];exact f,h.scp g,h.inv j⟩
theorem Sk.x8 (h:Sk b c):x8 b=x8 c:=by
 have e:VP b=VP c:=funext λi=>funext λp=>propext ⟨h.vp,h.symm.vp⟩;unfold Go.Proofs.YtffgfafbffdgaaaGreatDoor.x8 pg;rw[e,h.gr,Oe 0 h.bl]
end
section
variable {p:ByteArray}{b:bn}
theorem JW (l:List mQ)(a:Int):(mj (l.map (EW p)) a).ty=(mj l a).ty:=by
 unfold mj;rw[gZ,gZ,bg];cases l[a.toNat]? <;> rfl
theorem IW (ts:List bp)(l:List mQ)(q:gR):bJ ts (l.map (EW p)) q=bJ ts l q:=by
 unfold bJ;rw[aS,JW]
theorem Jk (ts:List bp)(l:List mQ)(q:gR):jN ts (l.map (EW p)) q=jN ts l q:=by
 unfold jN;rw[IW,JW]
theorem PA (ts:List bp)(q:gR):ml ts (jR p b).lc q=ml ts b.lc q:=by
 unfold ml jR;rw[IW,Jk]
theorem XK (ts:List bp)(q:gR):tj ts (jR p b).lc q=tj ts b.lc q:=by
 unfold tj jR;rw[Jk]
theorem yJ:mB (jR p b)=mB b:=funext λq=>IW _ _ _
theorem qh:(jR p b).rg.length=b.rg.length:=aS _
theorem uT:(jR p b).lc.length=b.lc.length:=aS _
theorem uL:(jR p b).bl.length=b.bl.length:=aS _
theorem vy:(jR p b).ty=b.ty:=rfl
theorem PK:(jR p b).ol=b.ol:=rfl
theorem EJ:kx (jR p b)=kx b:=funext λo=>by
 unfold kx;rw[yJ,vy]
theorem JR:tc (jR p b)=tc b:=funext λo=>by
 unfold tc;rw[yJ,vy]
theorem WQ:nW (jR p b)=nW b:=funext λo=>funext λt=>by
 unfold nW;rw[yJ,vy,JR,qh,PK]
theorem uY:∀(l:List gq) (fs:List Int),eM (jR p b) l fs=eM b l fs
 |[],_=>by simp only[eM]
 |o::l,[]=>by simp only[eM,EJ,uY l]
 |o::l,f::fs=>by simp only[eM,EJ,WQ,uY l]
theorem PO (r:tx)(t n:Int)(x:Int×Int):oj (jR p b) r t n x=oj b r t n x:=by
 unfold oj;rw[uY,JR,vy]
theorem Vi (r:tx)(t:Int):vE (jR p b) r t=vE b r t:=by
 unfold vE;rw[yJ,vy,qh,PA,XK,PK]
theorem ZQ (r:tx)(t:Int):Cd (jR p b) r t=Cd b r t:=by
 unfold Cd;rw[uY,uY,Vi,PO,PO,vy]
theorem I3 (q:gR):qy (jR p b) q=qy b q:=by
 unfold qy;rw[yJ,vy,PA]
theorem ZS (s:qO):yY (jR p b) s=yY b s:=by
 unfold yY;rw[I3,ZQ,yJ,uT]
theorem QE:∀l:List qO,rZ (jR p b) l=rZ b l
 |[]=>by simp only[rZ]
 |s::l=>by simp only[rZ,ZS,QE l]
theorem Z5 {m:ra}(h:tw b m=0)(hi:m.k=3->eY m.nm=true->eY (p++m.nm)=true):tw (jR p b) (yE p m)=0:=by
 unfold yE;by_cases c:m.k=3
 ·rw[aD c]
  have g:=(UJ h).1;have e:nX ⟨m.k,m.tg,m.ar,m.pl,p++m.nm⟩=nX m:=by
   unfold nX;simp only[c];rfl
  by_cases hid:eY m.nm=true
  ·have f:tw (jR p b) ⟨m.k,m.tg,m.ar,m.pl,p++m.nm⟩=tw b m:=by
    unfold tw;rw[e];simp only[I3,uY,uL,EJ,JR,yJ,hi c hid,hid];try rfl
   rw[f];exact h
  ·have hid:eY m.nm=false:=by simpa using hid
   unfold tw at h;simp only[c,hid] at h;simp at h;split at h
   ·cases h
   ·split at h <;> cases h
 ·rw[aC c]
  unfold tw at h ⊢;rw[I3,uY,uL,EJ,JR,yJ];exact h
theorem Mw:∀{l:List im},rn b l=0->(∀x∈l,x.tm.k=3->eY x.tm.nm=true->eY (p++x.tm.nm)=true)->rn (jR p b) (l.map (yX p))=0
 |[],_,_=>by simp only[fw,rn]
 |x::l,h,hi=>by
  simp only[rn] at h;rw[cC];simp only[rn];have e:(yX p x).st=x.st:=rfl;have g:(yX p x).tm=yE p x.tm:=rfl;rw[e,g,QE];split at h
  ·cases h
  ·rename_i i
   rw[aC i];split at h
   ·rename_i c;exact absurd h c
   ·rename_i c
    rw[aC c];split at h
    ·rename_i f;exact absurd h f
    ·rename_i f
     rw[aC (λj=>j (Z5 (fp.1 f) (hi x jm)))];exact Mw h λy m=>hi y (dH _ m)
theorem JQ (l:List ByteArray)(s:ByteArray):rQ (l.map (p++·)) (p++s)=rQ l s:=by
 unfold rQ;rw[List.findIdx_map];congr 1;funext x;exact decide_eq_decide.2 ET
theorem PD:∀{l seen:List ByteArray},rY seen l=0->(∀s∈l,eY s=true->eY (p++s)=true)->rY (seen.map (p++·)) (l.map (p++·))=0
 |[],_,_,_=>rfl
 |s::l,seen,h,hi=>by
  simp only[rY] at h;rw[cC];simp only[rY];by_cases h1:eY s=true
  ·rw[h1] at h
   rw[hi s jm h1,JQ,aS];rw[aC (by simp)] at h ⊢;split at h
   ·cases h
   ·rename_i h2
    rw[aC h2];have:=PD (l:=l) h λy c=>hi y (dH _ c);rwa[bI] at this
  ·rw[aD (by simpa using h1)] at h
   cases h
theorem Ob {n:Nat}:∀{l:List mQ}{seen:List ByteArray},oV n seen l=0->(∀x∈l,eY x.nm=true->eY (p++x.nm)=true)->oV n (seen.map (p++·)) (l.map (EW p))=0
 |[],_,_,_=>rfl
 |s::l,seen,h,hi=>by
  simp only[oV] at h;rw[cC];simp only[oV];have e:(EW p s).nm=p++s.nm:=rfl;have c:(EW p s).ty=s.ty:=rfl;rw[e,c];by_cases h1:eY s.nm=true
  ·rw[h1] at h
   rw[hi s jm h1,JQ,aS];rw[aC (by simp)] at h ⊢;split at h
   ·cases h
   ·rename_i f
    rw[aC f];split at h
    ·cases h
    ·rename_i g
     rw[aC g];have:=Ob (l:=l) h λy i=>hi y (dH _ i);rwa[bI] at this
  ·rw[aD (by simpa using h1)] at h
   cases h
theorem OL {s:ByteArray}(hp:eY p=true)(h1:p.size<=20)(hs:eY s=true)(h2:s.size<=200):eY (p++s)=true:=by
 have c:p.data.toList.length=p.size:=rfl;have e:s.data.toList.length=s.size:=rfl;unfold eY at *;rw[ByteArray.data_append,Array.toList_append];revert hp hs c e;generalize p.data.toList=a;generalize s.data.toList=d;intro hp hs c e;unfold oU at *;simp only[cX,dF] at hp hs ⊢;obtain⟨⟨⟨f,i⟩,g⟩,h⟩:=hp;obtain⟨⟨⟨d1,d2⟩,d3⟩,d4⟩:=hs;refine⟨⟨⟨by rw[aV];omega,by rw[aV];omega⟩,?_⟩,by rw[wR,h,d4];rfl⟩;cases a with
 |nil=>cases f
 |cons x l=>exact g
theorem NH:∀l:List im,MT (l.map (yX p))=(MT l).map (p++·)
 |[]=>rfl
 |x::l=>by
  have c:=NH l;unfold MT at *;rw[cC,List.filter_cons,List.filter_cons];by_cases h:x.tm.k=3
  ·have e:yE p x.tm=⟨x.tm.k,x.tm.tg,x.tm.ar,x.tm.pl,p++x.tm.nm⟩:=aD h
   have e2:(yX p x).tm.k=3:=by show(yE p x.tm).k=3;rw[e];exact h
   have f:(yX p x).tm.nm=p++x.tm.nm:=by show(yE p x.tm).nm=_;rw[e]
   rw[aD (ah e2),aD (ah h),cC,cC,cC,c,f]
  ·have e:yE p x.tm=x.tm:=aC h
   have e2:¬(yX p x).tm.k=3:=by show ¬(yE p x.tm).k=3;rw[e];exact h
   rw[aC (by simpa using e2),aC (by simpa using h),c]
theorem Ul:vV (jR p b)=(vV b).map (p++·):=by
 unfold vV uC;rw[uT,uL];have c:(jR p b).lc=b.lc.map (EW p):=rfl;have e:(jR p b).bl=b.bl.map (yX p):=rfl;rw[c,e,<-iK,<-iK,NH,cC,bI,bI,gL,gL];rfl
theorem JO (s:ByteArray):∀l:List ByteArray,lL (p++s) (l.map (p++·))=(lL s l).map (p++·)
 |[]=>rfl
 |x::l=>by
  rw[cC];unfold lL;by_cases h1:s=x
  ·rw[aD h1,aD (ET.2 h1)];rfl
  ·rw[aC h1,aC λh=>h1 (ET.1 h)]
   by_cases h2:s.toList<x.toList
   ·rw[aD h2,aD (PZ.2 h2)];rfl
   ·rw[aC h2,aC λh=>h2 (PZ.1 h),JO s l];rfl
theorem AZ:cI (jR p b)=(cI b).map (p++·):=by
 unfold cI jf;rw[Ul];have:∀(l m:List ByteArray),(l.map (p++·)).foldl (λc x=>lL x c) (m.map (p++·))=(l.foldl (λc x=>lL x c) m).map (p++·):=λl=>by
  induction l with
  |nil=>exact λ_=>rfl
  |cons x l e=>exact λm=>by rw[cC,rH,rH,JO];exact e _
 exact this _ []
theorem HW (t:List ByteArray)(s:ByteArray):tZ (t.map (p++·)) (p++s)=tZ t s:=by
 unfold tZ;rw[JQ]
theorem NS (t:List ByteArray):CF (t.map (p++·)) (jR p b)=CF t b:=by
 have c:eW (tZ (t.map (p++·))) (b.rg.map (p++·))=eW (tZ t) b.rg:=by
  unfold eW;rw[aS,zR];simp only[HW]
 have e:eW (AV (t.map (p++·))) (b.lc.map (EW p))=eW (AV t) b.lc:=by
  unfold eW;rw[aS,zR];simp only[AV,EW,HW];rfl
 unfold CF;show tZ _ (p++b.nm)++(eW _ (b.rg.map (p++·))++(eW Bd b.ol++(eW BU b.ty++(eW _ (b.lc.map (EW p))++fy b.ag))))=_;rw[c,e,HW]
theorem X4 (t:List ByteArray)(m:ra):MI (t.map (p++·)) (yE p m)=MI t m:=by
 unfold yE;by_cases h:m.k=3
 ·rw[aD h]
  unfold MI;simp only[JQ]
 ·rw[aC h]
  unfold MI;simp only[aC h]
theorem Ii (t:List ByteArray):tV (t.map (p++·)) (jR p b).bl=tV t b.bl:=by
 show tV _ (b.bl.map (yX p))=_;unfold tV;rw[aS,zR];have:∀x:im,FA (t.map (p++·)) (yX p x)=FA t x:=λx=>by
  show fy x.st.length++(x.st.flatMap MD++MI _ (yE p x.tm))=_;rw[X4];rfl
 rw[show(λx=>FA (t.map (p++·)) (yX p x))=FA t from funext this]
theorem J5:∀s∈b.rg,s∈vV b:=λs c=>by unfold vV uC;simp [c]
theorem J6:∀x∈b.lc,x.nm∈vV b:=λx c=>by
 unfold vV uC;rw[dI];exact dH _ (pL _ (o8 _ (cD.2 ⟨x,c,rfl⟩)))
theorem J7:∀x∈b.bl,x.tm.k=3->x.tm.nm∈vV b:=λx e c=>by
 unfold vV uC MT;rw[dI,dI];exact dH _ (pL _ (pL _ (cD.2 ⟨x,fN.2 ⟨e,ah c⟩,rfl⟩)))
theorem Vs (h:oM b=0)(hn:∀s∈cI b,s.size<=200)(hp:eY p=true)(h1:p.size<=20):oM (jR p b)=0:=by
 have g:∀s,s∈vV b->eY s=true->eY (p++s)=true:=λs m w=>OL hp h1 w (hn s (fT.2 m));unfold oM at h ⊢;split at h
 ·rename_i i;exact absurd h i
 ·rename_i i
  have c:=fp.1 i;have v:=Mw (p:=p) h λx n z=>g _ (J7 x n z);have j:nC (jR p b)=0:=by
   unfold nC at c ⊢;split at c
   ·cases c
   ·rename_i q1
    have q1:eY b.nm=true:=by simpa using q1
    have o:eY (jR p b).nm=true:=g b.nm jm q1;rw[o,aC (by simp)];split at c
    ·rename_i q;exact absurd c q
    ·rename_i f
     have f:=fp.1 f;have r:kP (jR p b).rg=0:=by
      unfold kP at f ⊢;rw[qh];split at f
      ·cases f
      ·rename_i q;rw[aC q];exact PD (seen:=[]) f λs m=>g s (J5 s m)
     rw[r,aC (by simp),qh,PK,vy,uL];split at c
     ·rename_i q;exact absurd (by exact_mod_cast c) q
     ·rename_i A
      rw[aC A];split at c
      ·rename_i q;exact absurd (by exact_mod_cast c) q
      ·rename_i B
       rw[aC B];split at c
       ·rename_i q;exact absurd c q
       ·rename_i e
        have e:=fp.1 e;have u:th (jR p b)=0:=by
         unfold th at e ⊢;rw[uT,vy];split at e
         ·cases e
         ·rename_i q;rw[aC q]
          split at e
          ·rename_i q;exact absurd e q
          ·rename_i q
           have:=Ob (p:=p) (seen:=[]) (fp.1 q) λx n=>g _ (J6 x n);rw[aC (λh=>h this)];exact e
        rw[u,aC (by simp)];exact c
  rw[j,aC (by simp)];exact v
theorem ZZ (t:Tb b)(hn:∀s∈cI b,s.size<=200)(hp:eY p=true)(h1:p.size<=20):Tb (jR p b):=by
 have e:∀s∈vV b,cH (p++s).size:=λs h=>by
  have:=hn s (fT.2 h);rw[ByteArray.size_append];unfold cH;omega
 obtain⟨n,o,r,u,v,w⟩:=t.ok;have ok:xM (jR p b):=by
  refine⟨by rw[qh];exact n,o,r,by rw[uT];exact u,by rw[uL];exact v,λx i=>?_⟩;obtain⟨y,c,rfl⟩:=cD.1 i;obtain⟨j,m⟩:=w y c;refine⟨j,?_⟩;show Ht (yE p y.tm);unfold yE;split <;> exact m
 exact {
  ok:=ok
  sb:={
   ok:=ok
   nm:=e _ jm
   rs:=λs h=>by
    obtain⟨y,c,rfl⟩:=cD.1 h;exact e _ (J5 y c)
   ls:=λs h=>by
    obtain⟨y,c,rfl⟩:=cD.1 h;exact e _ (J6 y c)
   ts:=λs h=>by
    obtain⟨y,c,rfl⟩:=cD.1 h;show cH (yE p y.tm).nm.size;unfold yE;by_cases f:y.tm.k=3
    ·rw[aD f];exact e _ (J7 y c f)
    ·rw[aC f];exact t.sb.ts y c}
  ck:={
   wt:=t.ck.wt
   rf:=t.ck.rf
   wl:=λs h=>by
    obtain⟨y,c,rfl⟩:=cD.1 h;exact t.ck.wl y c
   ar:=t.ck.ar
   tl:=t.ck.tl
   ol:=λq g=>by rw[qh];exact t.ck.ol q g
   Qm:=t.ck.Qm
   MX:=by rw[qh];exact t.ck.MX
   Xp:=by rw[uT];exact t.ck.Xp
   YS:=by rw[uL];exact t.ck.YS}
  ch:=Vs t.ch hn hp h1
  cn:=by rw[(Uv p b).gr];exact t.cn
  lc:=by rw[uT];exact t.lc
  rg:=by rw[qh];exact t.rg
  ar:=λs h=>by
   obtain⟨y,c,rfl⟩:=cD.1 h;refine⟨(t.ar y c).1,?_⟩;show(yE p y.tm).ar.length<=3000;unfold yE;split <;> exact(t.ar y c).2}
end
end Go.Proofs.YtffgfafbffdgaaaGreatDoor
