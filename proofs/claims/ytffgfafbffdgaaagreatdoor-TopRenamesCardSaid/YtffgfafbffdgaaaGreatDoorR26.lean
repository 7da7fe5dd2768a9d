/- Lemmas and contracts of functions, several texts in one. -/
import Derived.Test.YtffgfafbffdgaaaGreatDoorR25
set_option maxRecDepth 100000
set_option maxHeartbeats 4000000
set_option linter.all false
namespace Go.Proofs.YtffgfafbffdgaaaGreatDoor
open Go.RowKit
open Tryz
variable {E K L B S:List (Int×Int)}{i k n sz:Nat}{r p q x a:Int}{H0 Hs H' H Hc:aA}{Ds:List Nat}{e:TypeId}{els:List (List D)}{ob:Option Nat}
def Gg (E K L:List (Int×Int)) (i r p:Int):List Int:=if (i,p)∈K then [] else (fA E p).filter λq=>decide ((r,q)∈L)
theorem ve {i:Int}:q∈Gg E K L i r p↔(i,p)∉K/\(p,q)∈E/\(r,q)∈L:=by
 unfold Gg;split
 ·rename_i h
  simp [h]
 ·rename_i h
  rw[fN,sf,dF];exact⟨λb=>⟨h,b⟩,λb=>b.2⟩
inductive KV (f:Int->List Int) (a:Int):Int->Prop
 |one {q:Int}:q∈f a->KV f a q
 |step {p q:Int}:KV f a p->q∈f p->KV f a q
def nO (B:List (Int×Int)):List Int:=B.map (·.1)
theorem JV (B b:List (Int×Int)):nO (B++b)=nO B++nO b:=bI
theorem qZ:q∈nO B↔∃p,(q,p)∈B:=by
 unfold nO;rw[cD];exact⟨λ⟨⟨a,c⟩,h,e⟩=>⟨c,e▸h⟩,λ⟨p,h⟩=>⟨_,h,rfl⟩⟩
structure Bf (f:Int->List Int) (a:Int) (B:List (Int×Int)):Prop where
 nd:(nO B).Nodup
 pr:∀(j:Nat) (h:j<B.length),B[j].1∈f B[j].2/\(B[j].2=a\/B[j].2∈nO (B.take j))
structure M5 (f:Int->List Int) (a:Int) (B:List (Int×Int)) (Q:List Int):Prop where
 b:Bf f a B
 qu:∀x∈Q,x=a\/x∈nO B
 cl:∀x,(x=a\/x∈nO B)->x∉Q->∀q∈f x,q∈nO B
 ql:Q.length<=B.length+1
structure Qj (f:Int->List Int) (a:Int) (B:List (Int×Int)) (Q:List Int) (p:Int) (pre:List Int):Prop where
 b:Bf f a B
 qu:∀x∈Q,x=a\/x∈nO B
 cl:∀x,(x=a\/x∈nO B)->x∉Q->x≠p->∀q∈f x,q∈nO B
 pk:p=a\/p∈nO B
 pd:∀q∈pre,q∈nO B
 ql:Q.length<=B.length
section
variable {f:Int->List Int}{a:Int}{B:List (Int×Int)}{Q:List Int}{p q:Int}{pre:List Int}
theorem M5.init:M5 f a [] [a]:=⟨⟨by simp [nO],λj h=>by cases h⟩,by simp,λx h b=>by simp [nO] at h b;exact absurd h b,bh _⟩
theorem M5.pop (h:M5 f a B (p::Q)):Qj f a B Q p []:=⟨h.b,λx l=>h.qu x (dH _ l),λx c g j=>h.cl x c (by simp [g,j]),h.qu p (by simp),by simp,by have:=h.ql;rw[bx] at this;omega⟩
theorem Qj.xz (h:Qj f a B Q p pre)(c:q∈nO B):Qj f a B Q p (pre++[q]):=⟨h.b,h.qu,h.cl,h.pk,λx hx=>by
 rcases bB.1 hx with hx|hx
 ·exact h.pd x hx
 ·rw[bM] at hx;rw[hx];exact c,h.ql⟩
theorem Qj.new (h:Qj f a B Q p pre)(s:q∉nO B)(hf:q∈f p):Qj f a (B++[(q,p)]) (Q++[q]) p (pre++[q]):=by
 have g:∀x,x∈nO (B++[(q,p)])↔x∈nO B\/x=q:=λx=>by rw[JV,bB];simp [nO]
 refine⟨⟨?_,λj o=>?_⟩,λx hx=>?_,λx h1 l m y hy=>?_,?_,λx hx=>?_,by have:=h.ql;rw[aV,aV];exact Nat.add_le_add_right this _⟩
 ·rw[JV]
  refine mW.2 ⟨h.b.nd,by simp [nO],λx hx y hy=>?_⟩;have:y=q:=by simpa [nO] using hy
  rw[this];exact λe=>s (e▸hx)
 ·rw[aV,eE] at o
  by_cases c:j<B.length
  ·rw[List.getElem_append_left c,uh (by omega)]
   exact h.b.pr j c
  ·have e:j=B.length:=by omega
   subst e;rw[List.getElem_append_right (bh _),uh (bh _),dI];simp only[wU,zC];exact⟨hf,h.pk⟩
 ·rw[g]
  rcases bB.1 hx with hx|hx
  ·exact(h.qu x hx).imp id .inl
  ·exact .inr (.inr (by simpa using hx))
 ·rw[g]
  rw[bB,bM] at l;refine .inl (h.cl x ?_ (λh=>l (.inl h)) m y hy);rcases h1 with h1|h1
  ·exact .inl h1
  ·rcases(g x).1 h1 with h1|h1
   ·exact .inr h1
   ·exact absurd (.inr h1) l
 ·exact h.pk.imp id λh1=>(g p).2 (.inl h1)
 ·rw[g]
  rcases bB.1 hx with hx|hx
  ·exact .inl (h.pd x hx)
  ·exact .inr (by simpa using hx)
theorem Qj.fin (h:Qj f a B Q p (f p)):M5 f a B Q:=⟨h.b,h.qu,λx g j y c=>by
 by_cases e:x=p
 ·exact h.pd y (e▸c)
 ·exact h.cl x g j e y c,by have:=h.ql;omega⟩
theorem Bf.rch (h:Bf f a B):∀(j:Nat) (hj:j<B.length),KV f a B[j].1:=by
 intro j
 induction j using Nat.strongRecOn with
 |_ j l=>
  intro hj
  obtain⟨b,h2⟩:=h.pr j hj
  rcases h2 with h2|h2
  ·rw[h2] at b;exact .one b
  ·obtain⟨y,g⟩:=qZ.1 h2
   obtain⟨k,c,e⟩:=kV g
   rw[bX] at c
   rw[List.getElem_take] at e
   have:=l k (by omega) (by omega)
   rw[e] at this
   exact .step this b
theorem M5.fin (h:M5 f a B []):q∈nO B↔KV f a q:=by
 constructor
 ·intro j
  obtain⟨y,m⟩:=qZ.1 j;obtain⟨k,g,e⟩:=kV m;have:=h.b.rch k g;rw[e] at this;exact this
 ·intro l
  induction l with
  |one c=>exact h.cl a (.inl rfl) (by simp) _ c
  |step _ c o=>exact h.cl _ (.inr o) (by simp) _ c
end
def U5 (B:List (Int×Int)):List (Value×Value):=B.map λy=>(.int .i64 y.1,.int .i64 y.2)
def I7 (B:List (Int×Int)):List (Value×D):=(U5 B).map λp=>(p.1,.val p.2)
theorem zW (y:Int×Int)(B:List (Int×Int)):I7 (y::B)=(.int .i64 y.1,.val (.int .i64 y.2))::I7 B:=rfl
theorem RE (h:x∉nO B):iC (I7 B) (.int .i64 x)=none:=by
 induction B with
 |nil=>rfl
 |cons y B c=>
  have b:y.1≠x/\x∉nO B:=by simp only[nO,cC,bV,not_or] at h;exact⟨λe=>h.1 e.symm,h.2⟩
  rw[zW]
  simp only[iC]
  rw[aC (λe=>b.1 (by injection e)),c b.2]
theorem VU (hn:(nO B).Nodup)(h:(x,p)∈B):iC (I7 B) (.int .i64 x)=some (.val (.int .i64 p)):=by
 induction B with
 |nil=>cases h
 |cons y B c=>
  have b:y.1∉nO B/\(nO B).Nodup:=pO.1 hn
  rw[zW]
  simp only[iC]
  rcases bV.1 h with h|h
  ·rw[<-h]
   simp
  ·rw[aC (λe=>b.1 (by injection e with _ e;rw[e];exact qZ.2 ⟨_,h⟩)),c b.2 h]
theorem RF (h:x∉nO B):eJ (I7 B) (.int .i64 x) (.val (.int .i64 p))=I7 (B++[(x,p)]):=by
 induction B with
 |nil=>rfl
 |cons y B c=>
  have b:y.1≠x/\x∉nO B:=by simp only[nO,cC,bV,not_or] at h;exact⟨λe=>h.1 e.symm,h.2⟩
  rw[zW]
  simp only[eJ]
  rw[aC (λe=>b.1 (by injection e)),c b.2]
  rfl
theorem VV (h:∀q∈nO B,BX q)(hx:BX x):SP prog 3 (I7 B) (.int .i64 x):=
 ⟨Go.Maps.int_keyed underlying3,kn underlying3 hx,λp b=>by
  unfold I7 U5 at b;rw[gL,cD] at b;obtain⟨y,c,rfl⟩:=b;exact kn underlying3 (h _ (qZ.2 ⟨_,c⟩))⟩
theorem Mg {G:Cx}{k:Code}{Q:Exit->St->Prop}{s:St}{H:aA}{a b c:Nat}{u Tb:TypeId}{t sb:Nat}{g v:List D}{Z:cY}(ta tb:Nat)(w:tb≠ta)
  (hs:s.H=((H.aU a (.row u 0 t [g])).aU b (.row Tb 0 sb [v])).aU c Z) (P:s.fr ta=.ep a 0 t 0 0) (fb:s.fr tb=.ep b 0 sb 0 0)
  (ha:H a=none) (hb:(H.aU a (.row u 0 t [g])) b=none) (hc:((H.aU a (.row u 0 t [g])).aU b (.row Tb 0 sb [v])) c=none)
  (h:W G k Q (((s.cJ (H.aU c Z)).put (some ta) (.rp g)).put (some tb) (.rp v))):W G k Q s:=by
 obtain⟨j,y⟩:=bF.1 hb;obtain⟨m,A⟩:=bF.1 hc;obtain⟨l,R⟩:=bF.1 A;have M:s.H a=some (.row u 0 t [g]):=by rw[hs,aJ l.symm,aJ j.symm,aK]
 have N:(s.H.del a) b=some (.row Tb 0 sb [v]):=by rw[bL j,hs,aJ m.symm,aK]
 refine dZ ta P M rfl ?_;refine dZ tb (b:=b) (o:=0) (sz:=sb) (i:=0) (k:=0) (by rw[St.ku,sR,aC w];exact fb) N rfl ?_;refine lB (H.aU c Z) (λx z f=>?_) h;show((s.H.del a).del b) x=_;by_cases e:x=c
 ·subst e
  rw[aK] at f;rw[bL m,bL l,hs,aK];exact f
 ·rw[aJ e] at f
  have I:x≠a:=λe=>by rw[e,ha] at f;cases f
  have J:x≠b:=λe=>by rw[e,y] at f;cases f
  rw[bL J,bL I,hs,aJ e,aJ J,aJ I];exact f
theorem UD (cs:List D)(i p:Int)(H:aA):aN prog 255 [.rp cs,i64 i,i64 p] H λd H'=>d=.fn 317 [.rp [.rp cs],.rp [i64 i],.rp [i64 p]]/\H=H':=by
 refine dO func255 ntmps255 results255 λs o Q h=>?_;refine t0 ?_;intro U Y O C;intro l f m g j b;refine Y _ ?_;refine Mg 3 4 (by decide) rfl rfl rfl f g b ?_;have c:H j=none:=(bF.1 (bF.1 b).2).2;simp only[iN,fS,fC,eL,uP,oR];refine cm 5 c ?_;refine u0 h ?_;exact⟨_,aF _,by first|rfl|exact⟨rfl,rfl⟩⟩
theorem Gp {x:Int×Int}(h:x∈S):iC (yO S) (pk x.1 x.2)=some (.val (.bool true)):=by
 induction S with
 |nil=>cases h
 |cons a S b=>
  rw[ri]
  simp only[iC]
  by_cases e:a=x
  ·rw[e,aD rfl]
  ·rw[aC (λh=>e (IA.1 h)),b ((bV.1 h).resolve_left λh=>e h.symm)]
theorem Cu {x:Int×Int}(h:x∉S):iC (yO S) (pk x.1 x.2)=none:=by
 induction S with
 |nil=>rfl
 |cons a S b=>
  rw[ri]
  simp only[iC]
  rw[bV,not_or] at h
  rw[aC (λe=>h.1 (IA.1 e).symm),b h.2]
theorem Pz {T:List Int}{j:Nat}(h:j<T.length):((T.take (j+1)).filter λq=>decide ((r,q)∈L))=((T.take j).filter λq=>decide ((r,q)∈L))++if (r,T[j])∈L then [T[j]] else []:=by
 rw[bw h,ly];congr 1;by_cases e:(r,T[j])∈L
 ·rw[aD e,tG (by simpa using e)];rfl
 ·rw[aC e,tH (by simpa using e)];rfl
theorem QC (t:List pT)(E K V L:List (Int×Int))(b1 b2 b3 b4:Nat)(m1:List (Value×D))(i:Nat)(hi:i<t.length)(p:Int)(rV:fZ m1 λx=>Aa (fA E x))(hE:E.length<=1000000)
  (b0:∀y∈K,du y.1/\du y.2) (b5:∀y∈L,du y.1/\du y.2) (am:∀y∈E,du y.1/\du y.2) (ad:du p) (al:du i) (ae:du t[i].rg):
  ph prog 317 [.rp [JP t E K V L b1 b2 b3 b4],.rp [i64 i],.rp [i64 p]] (λq:Int=>[i64 q]) (·<+:Gg E K L i t[i].rg p) (·=Gg E K L i t[i].rg p) (U3 E K V L b1 b2 b3 b4 m1) (U3 E K V L b1 b2 b3 b4 m1):=by
 have aa:=lm pF t;have hx:=aX i;have a6:=aZ i;have a4:(i:Int)<(t.length:Int):=by omega
 have G:(List.map pF t)[i]?=some (pF t[i]):=bZ hi;obtain⟨r,hr⟩:=oX t[i];rw[<-hr] at G ae ⊢;simp only[pF] at G;have a2:=Ey (S:=kO [] K) (λx hx=>b0 x (by rcases jt.1 hx with h|h;cases h;exact h)) (x:=((i:Int),p)) ⟨al,ad⟩;have a9:=rV.ok (P:=prog) underlying3 ad;have u:=rV.get p;simp only[pk] at a2;unfold JP;refine v7 _ func317 rfl rfl ntmps317 results317 (by simp) λl J Jx H w0 g0 Q dC hJ hC b7 aw hY aB=>?_;obtain⟨h1,h2,h3,h4⟩:=dC;by_cases I:((i:Int),p)∈K
 ·have v:=Gp (S:=kO [] K) (x:=((i:Int),p)) (jt.2 (.inr I))
  simp only[pk] at v;have e0:Gg E K L i r.rg p=[]:=aD I;rw[e0] at aB;refine bW ?_;refine bW ?_;refine dE (λ_ _ _ _=>False) λU Y=>?_;refine dst (bQ @yD.eq_1 h2 v) ?_;intro U Y O C;refine⟨a2,?_⟩;refine Y _ ?_;refine t0 ?_;intro U Y O C;exact aB _ _ (.inr rfl) rfl (.inl ⟨_,rfl,hJ⟩)
 have v:=Cu (S:=kO [] K) (x:=((i:Int),p)) (λh=>by rcases jt.1 h with h|h;cases h;exact I h);simp only[pk] at v;obtain⟨T,hT⟩:=oX (fA E p);have b8:T.length<=1000000:=by
  rw[hT];unfold fA;rw[aS];exact ma (kU _ _) hE
 have ak:∀q∈T,du q:=λq hq=>by rw[hT,sf] at hq;exact(am _ hq).2
 have e0:Gg E K L i r.rg p=T.filter λq=>decide ((r.rg,q)∈L):=by rw[hT];exact aC I
 rw[e0] at aB hY;rw[<-hT] at u;have a3:=lm iD T;refine bW ?_;refine bW ?_;refine dE (λ_ _ _ _=>False) λU Y=>?_;refine dst (bQ @yD.eq_1 h2 v) ?_;intro U Y O C;refine⟨a2,?_⟩;refine Y _ ?_;obtain⟨X,hX⟩:=oX ([D.seq 5 (List.map pF t),D.seq 2 (List.map pD E),D.seq 2 (List.map pD K),D.seq 2 (List.map pD V),D.seq 2 (List.map pD L),.val (.map (some b1)),.val (.map (some b2)),.val (.map (some b3)),.val (.map (some b4))]);(iterate 2 (refine tk trivial ?_;intro U Y O C));refine Gu 20 (.val (.slice none 0 0)) (.seq 1 []) fO (λs=>s.df=[]/\s.fr 0=yD l/\s.fr 1=.rp [.rp X]/\s.fr 2=.rp [i64 i]/\s.fr 20=.seq 1 (T.map iD)/\s.fr 21=i64 T.length/\s.fr 22=i64 0/\s.H=H) ?_ ?_
 ·by_cases hs:T=[]
  ·rw[Aa,aD hs] at u
   refine dE (λ_ _ _ _=>False) λU Y=>?_;refine dst (bQ @yD.eq_1 h1 u) ?_;intro U Y O C;refine⟨a9,?_⟩;refine Y _ ?_;exact .inr ⟨rfl,rfl,rfl,by rw[hX] <;> rfl,rfl,by rw[hs] <;> rfl,by rw[hs] <;> rfl,rfl,rfl⟩
  ·rw[Aa,aC hs] at u
   refine dE (λ_ _ _ _=>False) λU Y=>?_;refine dst (cA @yD.eq_1 h1 u a3) ?_;intro U Y O C;refine⟨a9,?_⟩;refine Y _ ?_;exact .inl ⟨rfl,rfl,by rw[hX] <;> rfl,rfl,rfl,rfl,rfl,rfl⟩
 rintro s ⟨b,A,R,Z,g,c,f,hH⟩;refine nP ?_;refine aO T.length (λj s=>s.df=[]/\s.fr 0=yD l/\s.fr 1=.rp [.rp X]/\s.fr 2=.rp [i64 i]/\s.fr 20=.seq 1 (T.map iD)/\s.fr 21=i64 T.length/\s.fr 22=i64 j/\J ((T.take j).filter λq=>decide ((r.rg,q)∈L)) s.H) ⟨b,A,R,Z,g,c,f,by rw[hH];exact hJ⟩ ?_;clear hH f c g Z R A b;clear s;rintro j s hj ⟨b,A,R,Z,g,c,f,z⟩;have ac:=aX j;have a7:=aZ j;by_cases m:j<T.length
 case neg=>
  have q2:=lF j T.length;rw[bK (by omega)] at z;refine tq (bQ c f q2) ?_;intro U Y O C;exact aB _ _ (.inl rfl) b (.inl ⟨_,rfl,z⟩)
 have q2:=lT j T.length;have w3:=wS j;have a0:=bT m;have o:=Pz (L:=L) (r:=r.rg) m;have ab:((T.take (j+1)).filter λq=>decide ((r.rg,q)∈L))<+:T.filter λq=>decide ((r.rg,q)∈L):=(List.take_prefix _ _).filter _;have a5:=ak T[j] (ao _);obtain⟨q,hq⟩:=oX T[j];rw[<-hq] at a0 o a5;have N:=Ey (S:=kO [] L) (λx hx=>b5 x (by rcases jt.1 hx with h|h;cases h;exact h)) (x:=(r.rg,q)) ⟨ae,a5⟩;have ap:=aw _ _ z;have a8:=ap.m4;simp only[pk] at N;have ag:∀s:St,s.df=[]->(∃b6,Jx b6 s.H)->Q .ret s:=λs b h=>aB _ _ (.inr rfl) b (.inr h);have b9:=hX;by_cases M:(r.rg,q)∈L
 ·have w:=Gp (S:=kO [] L) (x:=(r.rg,q)) (jt.2 (.inr M))
  simp only[pk] at w;rw[aD M] at o;rw[o] at ab;refine tq (bG g c f q2 a0 ac a7 (av m a3)) ?_;intro U Y O C;refine ik 19 (λ_ _ _ _=>False) (by kernel_rfl) (by kernel_rfl) (by kernel_rfl) (by kernel_rfl) (by kernel_rfl) λU Y=>?_;refine dst (bG A R Z hX a8 w G (cw hx a6 a4 hi aa)) ?_;intro U Y O C;refine⟨N,?_⟩;refine dst (av A @yD.eq_1) ?_;intro U Y O C;refine nx ?_;show WL _ _ (_::_) _ _;refine tq (av A @yD.eq_1) ?_;intro U Y O C;refine nu ((T.take j).filter λq=>decide ((r.rg,q)∈L)) q rfl rfl rfl (by simp [qP]) hY (dr _ _) ab z rfl (λH' a1 ar=>?_) λH' a1 ar=>?_
  ·refine eV trivial ?_;refine nx ?_
   refine tn (av f w3) ?_;exact⟨m,b,A,R,Z,g,c,rfl,by rw[o];exact a1⟩
  ·refine eV trivial ?_;refine nx ?_
   refine t0 ?_;intro U Y O C;exact ag _ b ⟨_,a1⟩
 ·have w:=Cu (S:=kO [] L) (x:=(r.rg,q)) (λh=>by rcases jt.1 h with h|h;cases h;exact M h)
  simp only[pk] at w;rw[aC M,bz] at o;refine tq (bG g c f q2 a0 ac a7 (av m a3)) ?_;intro U Y O C;refine ik 19 (λ_ _ _ _=>False) (by kernel_rfl) (by kernel_rfl) (by kernel_rfl) (by kernel_rfl) (by kernel_rfl) λU Y=>?_;refine dst (bG A R Z hX a8 w G (cw hx a6 a4 hi aa)) ?_;intro U Y O C;refine⟨N,?_⟩;refine dst (av A @yD.eq_1) ?_;intro U Y O C;refine nx ?_;show WL _ _ (_::_) _ _;refine tn (av f w3) ?_;exact⟨m,b,A,R,Z,g,c,rfl,by rw[o];exact z⟩
structure VN where
 st:List (List D)
 k:D
 tg:List Int
 ar:D
 lo:D
 pr:D
 nm:D
def xC (b:VN):List D:=[.seq 11 b.st,b.k,.seq 1 (b.tg.map iD),b.ar,b.lo,b.pr,b.nm]
structure kz where
 nm:D
 rg:D
 ol:D
 ty:D
 lc:D
 ag:D
 bl:List VN
def lK (b:kz):List D:=[b.nm,b.rg,b.ol,b.ty,b.lc,b.ag,.seq 7 (b.bl.map xC)]
def kz.g (b:kz):Gr:=b.bl.map λx=>(x.st.length,x.tg)
theorem kz.oy (b:kz):b.g.length=b.bl.length:=by unfold kz.g;simp
theorem kz.F5 (b:kz)(h:i<b.bl.length):b.g[i]'(by rw[b.oy];exact h)=(b.bl[i].st.length,b.bl[i].tg):=by simp only[kz.g,tN]
theorem vD {b:kz}(h:i<b.bl.length):(b.bl.map xC)[i]?=some (xC b.bl[i]):=by rw[bg,az h];rfl
theorem wj (b:kz):(b.bl.map xC).length=b.bl.length:=aS _
theorem sI (b:kz)(h:i<b.bl.length):dG b.g (i+1)=dG b.g i+b.bl[i].st.length+1:=by rw[oB (by rw[b.oy];exact h),b.F5 h]
theorem YR {b:kz}:At b.g p i k↔∃h:i<b.bl.length,k<=b.bl[i].st.length/\p=(dG b.g i:Int)+k:=by
 constructor
 ·rintro⟨c,f,j⟩
  have l:i<b.bl.length:=by rw[b.oy] at c;exact c
  rw[b.F5 l] at f;exact⟨l,f,j⟩
 ·rintro⟨c,f,j⟩
  exact⟨by rw[b.oy];exact c,by rw[b.F5 c];exact f,j⟩
theorem pq {b:kz}(hc:bu b.g<=1000000):b.bl.length<=1000000:=by
 have:=vc b.g;rw[b.oy] at this;omega
theorem qF {b:kz}(hc:bu b.g<=1000000)(h:i<b.bl.length):b.bl[i].st.length+dG b.g i+1<=1000000:=by
 have c:=sI b h;have f:=sH (G:=b.g) (i:=i+1);omega
theorem O1 (b:kz)(n:Int)(H:aA)(hc:bu b.g<=1000000):aN prog 50 [.agg (lK b),i64 n] H λd H'=>d=i64 (dG b.g n.toNat)/\H=H':=by
 have l:=wj b;have N:=pq hc;refine dO func50 ntmps50 results50 λw0 g0 Q J=>?_;refine tq @lK.eq_1 ?_;intro U Y O C;intro Z y;refine Y _ ?_;refine cm 2 y ?_;refine tz ?_;refine aO b.bl.length (λi s=>s.df=[]/\s.fr 1=i64 n/\s.fr 2=.rp (lK b)/\s.fr 5=i64 (dG b.g i)/\s.fr 6=i64 i/\s.H=H/\i<=n.toNat) ⟨rfl,rfl,rfl,rfl,rfl,rfl,jY _⟩ ?_;rintro i s hi ⟨f,m,j,t,u,w,M⟩;have P:=aX i;have v:=aZ i;simp only[lK] at j;by_cases q:(i:Int)<n
 case neg=>
  have o:((i:Int)<n)=False:=aI q;have e:n.toNat=i:=by omega
  refine ur J (cw m j t u o) f ?_;exact⟨_,aF _,by rw[e] <;> rfl,w.symm⟩
 have o:((i:Int)<n)=True:=aG q;by_cases c:i<b.bl.length
 case neg=>
  have I:=lF i b.bl.length;have e:dG b.g i=dG b.g n.toNat:=by rw[lJ (by rw[b.oy];omega),lJ (by rw[b.oy];omega)]
  refine ur J (ej m j t u o I l) f ?_;exact⟨_,aF _,by rw[<-e] <;> rfl,w.symm⟩
 have I:=lT i b.bl.length;have h:=vD c;have A:=qF hc c;have z:=sI b c;obtain⟨x,G⟩:=oX b.bl[i];rw[<-G] at h A z;simp only[xC] at h;have R:IntKind.i64.wrap ((x.st.length:Int)+1)=((x.st.length+1:Nat):Int):=by rw[aP (by omega)];omega
 have T:IntKind.i64.wrap ((dG b.g i:Int)+((x.st.length+1:Nat):Int))=((dG b.g (i+1):Nat):Int):=by rw[aP (by omega)];omega
 have V:=wS i;refine tn (bG m j t u o I l (ej h P v c R T V)) ?_;exact⟨c,f,m,j,rfl,rfl,w,by omega⟩
theorem OY (b:kz)(H:aA)(hc:bu b.g<=1000000):aN prog 16 [.agg (lK b)] H λd H'=>d=i64 (bu b.g)/\H=H':=by
 have c:=wj b;have e:dG b.g ((b.bl.length:Int)).toNat=bu b.g:=lJ (by rw[b.oy,aX];exact bh _);refine dO func16 ntmps16 results16 λm l Q h=>?_;refine tq @lK.eq_1 ?_;intro U Y O C;intro j f;refine Y _ ?_;refine cm 1 f ?_;refine tq c ?_;intro U Y O C;refine(O1 b _ _ hc).q ?_;rw[e];refine u0 h ?_;exact⟨_,aF _,rfl⟩
noncomputable def Fh (G:Gr) (p:Int):D:=match Oh G p with
 |some (i,k)=>.eO [i64 i,i64 k,.val (.bool true)]
 |none=>.eO [i64 0,i64 0,.val (.bool false)]
theorem J3 {G:Gr}(h:At G p i k):Fh G p=.eO [i64 i,i64 k,.val (.bool true)]:=by unfold Fh;rw[Sh h]
theorem J4 {G:Gr}(h:¬(0<=p/\p<bu G)):Fh G p=.eO [i64 0,i64 0,.val (.bool false)]:=by unfold Fh;rw[Si h]
def E8 (G:Gr) (n:Nat):List Int:=(List.range n).map λ(j:Nat)=>(dG G j:Int)
theorem ng (G:Gr)(n:Nat):(E8 G n).length=n:=by unfold E8;simp
theorem UB (G:Gr)(n i:Nat)(h:i<n):(E8 G n)[i]'(by rw[ng];exact h)=(dG G i:Int):=by simp only[E8,tN,List.getElem_range]
theorem QA (G:Gr)(n:Nat):E8 G (n+1)=E8 G n++[(dG G n:Int)]:=by unfold E8;rw[rG,bI];rfl
theorem vv (G:Gr)(h:i<n):((E8 G n).map iD)[i]?=some [.val (.int .i64 (dG G i))]:=by rw[bT (by rw[ng];exact h),UB G n i h]
def SaI (b:kz) (H:aA) (i:Nat) (s:St):Prop:=s.df=[]/\s.fr 8=.seq 7 (b.bl.map xC)/\s.fr 9=i64 b.bl.length/\s.fr 10=i64 i/\H.le s.H/\∃c o,s.fr 3=.os c o 1 0 (i+1)/\H c=none/\s.H c=some (.row 3 o 1 ((E8 b.g (i+1)).map iD))
theorem ME (b:kz)(H:aA)(hc:bu b.g<=1000000):aN prog 173 [.agg (lK b)] H λd H'=>∃c o,d=.os c o 1 0 (b.bl.length+1)/\H c=none/\H' c=some (.row 3 o 1 ((E8 b.g (b.bl.length+1)).map iD))/\H.le H':=by
 have m:=wj b;have a2:=pq hc;refine dO func173 ntmps173 results173 λw0 g0 Q aB=>?_;refine tq @lK.eq_1 ?_;intro U Y O C;intro c1 M;refine Y _ ?_;refine cm 1 M ?_;refine to m ?_;intro U Y O C;intro c w;refine tn m ?_;refine aO b.bl.length (SaI b H) ⟨rfl,rfl,rfl,rfl,aQ (aF _) w,c,0,rfl,w,aK _ _ _⟩ ?_;rintro i s hi ⟨y,f8,J,j,aM,A,o2,f3,u,l⟩;have hx:=aX i;have v:=aZ i;by_cases f:i<b.bl.length
 case neg=>
  have q1:=lF i b.bl.length;have e:i=b.bl.length:=by omega
  subst e;refine ur aB (cA f3 J j q1) y ?_;exact⟨_,aF _,A,o2,rfl,u,l,aM⟩
 have q1:=lT i b.bl.length;have G:(i:Int)<b.bl.length:=by omega
 have t:=vD f;have Z:=qF hc f;have V:=sI b f;obtain⟨x,a0⟩:=oX b.bl[i];rw[<-a0] at t Z V;simp only[xC] at t;have w1:IntKind.i64.wrap ((dG b.g i:Int)+(x.st.length:Int))=((dG b.g i+x.st.length:Nat):Int):=by rw[aP (by omega)];omega
 have w2:IntKind.i64.wrap (((dG b.g i+x.st.length:Nat):Int)+1)=((dG b.g (i+1):Nat):Int):=by rw[aP (by omega)];omega
 have w3:=wS i;have R:=vv b.g (show i<i+1 by omega);refine tq (bG f8 J j q1 t hx v (bQ f G m)) ?_;intro U Y O C;intro c5 N;refine Y _ ?_;refine cm 5 N ?_;have T:Gl H 3 1 ((E8 b.g (i+1)).map iD) (.os A o2 1 0 (i+1)) s.H (some A):=.inr ⟨A,o2,rfl,by rw[aS,ng],u,l⟩;refine wE (λ_=>false) (λ_=>false) (λ_ _ _ _=>False) (λ_ _ _ _ _=>False) λU Y=>?_;have fs:=And.intro f3 (And.intro l (And.intro R (And.intro hx (And.intro v (And.intro w1 w2)))));refine uj ?_;refine nx ?_;(try clear fs);refine⟨by omega,?_⟩;refine ax (e:=3) fk rfl fk rfl yv rfl (by decide) aM T (new:=[iD (dG b.g (i+1):Int)]) (by exact⟨rfl,rfl⟩) (by rw[aS,ng];show(_+1) * 8<=_;omega) λd H6 a3 z I a1=>?_;rw[show[iD (dG b.g (i+1):Int)]=[(dG b.g (i+1):Int)].map iD from rfl,<-bI,<-QA] at z;have P:∃c o,d=.os c o 1 0 (i+1+1)/\H c=none/\H6 c=some (.row 3 o 1 ((E8 b.g (i+1+1)).map iD)):=by
  rcases z with⟨_,_,h⟩|⟨c,o,_,h1,h2,h3⟩
  ·have:=ai List.length h;rw[aS,ng] at this;simp at this
  ·exact⟨c,o,by rw[h1,aS,ng],h2,h3⟩
 refine tn (av j w3) ?_;exact⟨f,y,f8,J,rfl,I,P⟩
theorem GU (b:kz)(H:aA)(hc:bu b.g<=1000000):aN prog 173 [.agg (lK b)] H λd H'=>d=.seq 1 ((E8 b.g (b.bl.length+1)).map iD)/\H=H':=
 aq (K:=λd=>d=.seq 1 ((E8 b.g (b.bl.length+1)).map iD)) ((ME b H hc).mono λd H' ⟨c,o,h,j,l,f⟩=>⟨f,_,da (ob:=some c) f (.inr ⟨c,o,rfl,by rw[h,aS,ng],j,l⟩),rfl⟩)
theorem PV (b:kz)(H:aA)(hc:bu b.g<=1000000):aN prog 96 [.agg (lK b)] H λd H'=>d=i64 (bu b.g)/\H=H':=by
 have o:=pq hc;refine dO func96 ntmps96 results96 λw v Q m=>?_;refine tq @lK.eq_1 ?_;intro U Y O C;intro u f;refine Y _ ?_;refine cm 1 f ?_;refine t0 ?_;intro U Y O C;refine(GU b _ hc).q ?_;have h:(List.map iD (E8 b.g (b.bl.length+1))).length=b.bl.length+1:=by rw[aS,ng]
 have t:IntKind.i64.wrap (((b.bl.length+1:Nat):Int) - 1)=(b.bl.length:Int):=by rw[aP (by omega)];omega
 have l:=vv b.g (show b.bl.length<b.bl.length+1 by omega);have e:dG b.g b.bl.length=bu b.g:=lJ (by rw[b.oy];exact bh _);rw[e] at l;have s:(b.bl.length:Int).toNat=b.bl.length:=aX _;have c:(0:Int)<=(b.bl.length:Int):=aZ _;have j:(b.bl.length:Int)<((b.bl.length+1:Nat):Int):=by omega
 refine ur m (eP h t l s c j) trivial ?_;exact⟨_,aF _,rfl⟩
theorem Yt (b:kz)(p:Int)(H:aA)(hc:bu b.g<=1000000)(hp:p<=9223372036854775807):aN prog 176 [.agg (lK b),i64 p] H λd H'=>d=Fh b.g p/\H=H':=by
 have o:=wj b;have a0:=pq hc;refine dO func176 ntmps176 results176 λw0 g0 Q G=>?_;refine tq @lK.eq_1 ?_;intro U Y O C;intro c2 M;refine Y _ ?_;refine cm 2 M ?_;by_cases y:p<0
 ·have T:(p<0)=True:=aG y
  have e:Fh b.g p=_:=J4 λh=>by omega
  refine ur G T trivial ?_;exact⟨_,aF _,e.symm,rfl⟩
 have T:(p<0)=False:=aI y;refine tn (av T o) ?_;refine aO b.bl.length (λi s=>s.df=[]/\s.fr 1=i64 (p - dG b.g i)/\s.fr 12=.seq 7 (b.bl.map xC)/\s.fr 13=i64 b.bl.length/\s.fr 14=i64 i/\s.H=H/\(dG b.g i:Int)<=p) ⟨rfl,by rw[wz];simp;rfl,rfl,rfl,rfl,rfl,by rw[wz];omega⟩ ?_;rintro i s hi ⟨u,Z,m,f,j,I,N⟩;have hx:=aX i;have w:=aZ i;by_cases c:i<b.bl.length
 case neg=>
  have A:=lF i b.bl.length;have e:Fh b.g p=_:=J4 λh=>by
   rw[lJ (by rw[b.oy];omega)] at N;omega
  refine ur G (bQ f j A) u ?_;exact⟨_,aF _,e.symm,I.symm⟩
 have A:=lT i b.bl.length;have v:(i:Int)<b.bl.length:=by omega
 have l:=vD c;have R:=qF hc c;have P:=sI b c;have J:=λk=>(YR (b:=b) (p:=p) (i:=i) (k:=k)).2;obtain⟨x,z⟩:=oX b.bl[i];rw[<-z] at l R P;simp only[xC] at l;have w3:=wS i;have w1:IntKind.i64.wrap ((x.st.length:Int)+1)=(x.st.length:Int)+1:=by rw[aP (by omega)]
 have w2:IntKind.i64.wrap (p - (dG b.g i:Int) - ((x.st.length:Int)+1))=p - ((dG b.g (i+1):Nat):Int):=by rw[aP (by omega)];omega
 by_cases h5:p - (dG b.g i:Int)<=x.st.length
 ·have V:(p - (dG b.g i:Int)<=(x.st.length:Int))=True:=aG h5
  have e:Fh b.g p=_:=J3 (J (p - (dG b.g i:Int)).toNat ⟨c,by rw[<-z];omega,by omega⟩);have e2:(((p - (dG b.g i:Int)).toNat:Nat):Int)=p - (dG b.g i:Int):=by omega
  rw[e2] at e;refine tq (bG m f j A l hx w (bQ c v o)) ?_;intro U Y O C;intro c5 t;refine Y _ ?_;refine cm 8 t ?_;refine ur G (av Z V) u ?_;exact⟨_,aF _,e.symm,I.symm⟩
 ·have V:(p - (dG b.g i:Int)<=(x.st.length:Int))=False:=aI h5
  refine tq (bG m f j A l hx w (bQ c v o)) ?_;intro U Y O C;intro c5 t;refine Y _ ?_;refine cm 8 t ?_;refine tn (eP Z j V w1 w2 w3) ?_;exact⟨c,u,rfl,m,f,rfl,I,by omega⟩
def gBk (x:im):VN:=⟨x.st.map ji,i64 x.tm.k,x.tm.tg,.seq 4 (x.tm.ar.map db),i64 x.tm.pl.lo,.seq 2 (x.tm.pl.pr.map pD),bC x.tm.nm⟩
def gB (b:bn):kz:=⟨bC b.nm,.seq 1 (b.rg.map sD),.seq 2 (b.ol.map pD),.seq 5 (b.ty.map bS),.seq 2 (b.lc.map eQ),i64 b.ag,b.bl.map gBk⟩
theorem Dh (b:bn):lK (gB b)=cu b:=by
 unfold cu;unfold lK gB;simp only[gL];rfl
theorem F3 (b:bn):(gB b).g=fD b:=by
 unfold kz.g gB fD;simp only[gL];refine pf λx _=>?_;show((List.map ji x.st).length,x.tm.tg)=_;rw[aS]
theorem Hf (b:bn)(p:Int)(x:im)(k:Nat)(i:Nat)(c:At (fD b) p i k)(H:aA)(hc:bu (fD b)<=1000000):aN prog 176 [.agg (cu b),i64 p] H λd H'=>d=.eO [i64 i,i64 k,.val (.bool true)]/\H=H':=by
 have h:=Yt (gB b) p H (by rw[F3];exact hc) (by have:=c.lt;omega);rw[Dh,F3,J3 c] at h;exact h
def acE (a:Qn):List D:=[.agg (Xn a)]
theorem za (l:List gq)(o:gq):B2 (l++[o])=B2 l++(if o.k=0\/o.k=1 then [⟨o.pl,decide (o.k=1),true⟩] else []):=by
 unfold B2 EK;rw[ly,bI];congr 1;by_cases h:o.k=0\/o.k=1
 ·rw[aD h,tG (by simpa using h)];rfl
 ·rw[aC h,tH (by simpa using h)];rfl
theorem RO {l:List gq}(h:i<=l.length):B2 (l.take i)<+:B2 l:=by
 have e:B2 l=B2 (l.take i)++B2 (l.drop i):=by
  unfold B2 EK;rw[<-bI,<-ly,ga]
 rw[e];exact⟨_,rfl⟩
theorem P7 (z:List gq)(hz:cH z.length):BY prog 316 [.rp [.seq 4 (z.map db)]] acE (B2 z) λ_=>True:=by
 have N:=lm db z;unfold cH at hz;refine yg _ func316 rfl rfl ntmps316 results316 (by simp) λl J Jx H w0 g0 Q dC hJ hY aB=>?_;refine tn (av N @yD.eq_1) ?_;refine aO z.length (λi s=>s.df=[]/\s.fr 0=yD l/\s.fr 5=.seq 4 (z.map db)/\s.fr 6=i64 z.length/\s.fr 7=i64 i/\J (B2 (z.take i)) s.H) ⟨rfl,rfl,rfl,rfl,rfl,hJ⟩ ?_;rintro i s hi ⟨b,w,T,y,A,M⟩;have hx:=aX i;have V:=aZ i;by_cases f:i<z.length
 case neg=>
  have q1:=lF i z.length;rw[bK (by omega)] at M;refine tq (bQ y A q1) ?_;intro U Y O C;exact aB _ _ (.inl rfl) b (.inl M)
 have v:(i:Int)<(z.length:Int):=by omega
 have q1:((i:Int)<(z.length:Int))=True:=aG v;have w3:=wS i;have m:(z.map db)[i]?=some (db z[i]):=bZ f;have j:z.take (i+1)=z.take i++[z[i]]:=bw f;have g:=RO (l:=z) (i:=i+1) (by omega);obtain⟨u,hu⟩:=oX z[i];rw[<-hu] at m j;rw[j,za] at g;simp only[db] at m;refine tq (bG T y A N q1 m hx (bQ V f v)) ?_;intro U Y O C;intro c4 Z;refine Y _ ?_;refine cm 4 Z ?_;by_cases o:u.k=0\/u.k=1
 case neg=>
  have R:(u.k=0)=False:=aI λh=>o (.inl h);have t:(u.k=1)=False:=aI λh=>o (.inr h);refine tn (cA A R t w3) ?_;exact⟨f,b,w,T,y,rfl,by rw[j,za,aC o,bz];exact M⟩
 rw[aD o] at g;have a0:∀B,B=decide (u.k=1)->True:=λ_ _=>trivial;obtain⟨B,I⟩:=oX (decide (u.k=1));rw[<-I] at g;have P:B2 (z.take (i+1))=B2 (z.take i)++[⟨u.pl,B,true⟩]:=by rw[j,za,aD o,<-I]
 have G:u.k=0/\B=false\/u.k=1/\B=true:=by
  rcases o with h|h
  ·exact .inl ⟨h,by rw[I,h] <;> rfl⟩
  ·exact .inr ⟨h,by rw[I,h] <;> rfl⟩
 clear I o a0;have fin:∀s:St,s.df=[]->(∃a1,Jx a1 s.H)->Q .ret s:=λs b h=>aB _ _ (.inr rfl) b (.inr h);rcases G with⟨G,rfl⟩|⟨G,rfl⟩
 ·have R:(u.k=0)=True:=aG G
  have t:=nF (u.k=1);(iterate 10 (refine tk (av R t) ?_;intro U Y O C));(have fs:=And.intro w (And.intro t @yD.eq_1);refine x9 (7) (by kernel_rfl) ?_;refine Rw ?_;(try clear fs));refine lA rfl (oI (B2 (z.take i)) ⟨u.pl,false,true⟩ rfl rfl rfl (by simp [qP]) hY g M rfl (λH' c=>?_) λH' c=>?_)
  ·refine tn (av A w3) ?_
   exact⟨f,b,w,T,y,rfl,by rw[P];exact c⟩
  ·refine t0 ?_;intro U Y O C
   exact fin _ b ⟨_,c⟩
 ·have R:=nF (u.k=0)
  have t:(u.k=1)=True:=aG G;(iterate 10 (refine tk (av R t) ?_;intro U Y O C));(have fs:=And.intro w (And.intro t @yD.eq_1);refine x9 (7) (by kernel_rfl) ?_;refine Rw ?_;(try clear fs));refine lA rfl (oI (B2 (z.take i)) ⟨u.pl,true,true⟩ rfl rfl rfl (by simp [qP]) hY g M rfl (λH' c=>?_) λH' c=>?_)
  ·refine tn (av A w3) ?_
   exact⟨f,b,w,T,y,rfl,by rw[P];exact c⟩
  ·refine t0 ?_;intro U Y O C
   exact fin _ b ⟨_,c⟩
theorem TX (z:List gq)(H:aA):aN prog 253 [.seq 4 (z.map db)] H λd H'=>d=.fn 316 [.rp [.seq 4 (z.map db)]]/\H=H':=by
 refine dO func253 ntmps253 results253 λh g Q c=>?_;refine t0 ?_;intro U Y O C;intro f b;refine Y _ ?_;refine cm 1 b ?_;refine u0 c ?_;exact⟨_,aF _,by first|rfl|exact⟨rfl,rfl⟩⟩
def MY (x:im) (k:Nat):tx:=match x.st[k]? with
 |some s=>s.rv
 |none=>⟨0,0,0,false,⟨0,[]⟩,[]⟩
def DC (x:im) (k:Nat):List gq:=match x.st[k]? with
 |some s=>s.rv.ar
 |none=>x.tm.ar
theorem V8 (x:im)(k:Nat):Mj x k=B2 (DC x k)++((if (MY x k).k=1 then [⟨(MY x k).pl,(MY x k).mu,true⟩] else [])++(if (oq x k).2.1=true then [⟨(oq x k).1,true,false⟩] else [])):=by
 unfold Mj DC MY oq;cases x.st[k]? with
 |some s=>
  unfold acS
  simp only
  by_cases b:s.k=0
  ·rw[aD b,aD b];rfl
  ·by_cases c:s.k=1
   ·rw[aC b,aD c,aC b,aD c];rfl
   ·rw[aC b,aC c,aC b,aC c];rfl
 |none=>
  unfold acT
  simp only
  by_cases h:x.tm.k=3\/x.tm.k=4
  ·rw[aD h,ah h];rfl
  ·rw[aC h,af h];rfl
structure AcI (x:im) (k l c9:Nat) (H:aA) (s:St):Prop where
 df:s.df=[]
 f3:s.fr 3=.rp [yD l]
 f5:s.fr 5=i64 k
 f7:s.fr 7=.rp (dM x)
 f8:s.fr 8=.seq 4 ((DC x k).map db)
 f9:s.fr 9=.ep c9 0 7 0 0
 hH:∃cs,qQ cs (uo (MY x k))/\s.H=H.aU c9 (.row 77 0 7 [cs])
theorem RP (b:bn)(p:Int)(i k:Nat)(hi:i<b.bl.length)(am:At (fD b) p i k)(hc:bu (fD b)<=1000000)(ho:cH (DC b.bl[i] k).length):
  BY prog 252 [.rp (cu b),.rp [i64 p]] acE (Mj b.bl[i] k) λ_=>True:=by
 have a2:=λH=>Hf b p b.bl[i] k i am H hc;have bi:b.bl[i].st.length<=1000000:=by
  have h1:=vS (Nat.lt_succ_self i) (show i<(fD b).length by rw[pB];exact hi);have v:=sH (G:=fD b) (i:=i+1);rw[sc hi] at h1;simp only[Nat.succ_eq_add_one] at *;omega
 have ak:k<=b.bl[i].st.length:=by
  obtain⟨h1,v,h3⟩:=am;rw[sc hi] at v;exact v
 have a0:=λH=>Cr b.bl[i] k H (by unfold cH;omega) ak;have N:(b.bl.map dM)[i]?=some (dM b.bl[i]):=bZ hi;have b0:=lm dM b.bl;have f:=V8 b.bl[i] k;have b2:=P7 (DC b.bl[i] k) ho;have be:i<b.bl.length:=hi;have a4:=vc (fD b);rw[pB] at a4;obtain⟨x,hx⟩:=oX b.bl[i];rw[<-hx] at bi ak a0 N f b2 ⊢;obtain⟨xs,b4⟩:=oX (Mj x k);rw[<-b4] at f ⊢;clear hx b4 ho;unfold cu at a2 ⊢;refine OT _ func252 rfl rfl ntmps252 results252 (by simp) λl J Jx H w0 g0 Q dC hJ hC b9 hY aB=>?_;refine tq @yD.eq_1 ?_;intro U Y O C;intro c3 ba;refine Y _ ?_;refine cm 3 ba ?_;refine t0 ?_;intro U Y O C;refine(a2 _).q ?_;have b3:=aX i;have al:=aZ i;have ad:(i:Int)<(b.bl.length:Int):=by omega
 have a8:=lm ji x.st;simp only[dM] at N;refine tq (eP b0 N b3 al be ad) ?_;intro U Y O C;intro c7 ap;refine Y _ ?_;refine cm 7 ap ?_;refine t0 ?_;intro U Y O C;intro c9 a5;refine Y _ ?_;show W _ _ _ _;refine bW ?_;refine nR (AcI x k l c9 H) ?_ ?_
 ·by_cases P:k<x.st.length
  ·have ag:(k:Int)<(x.st.length:Int):=by omega
   have q1:((k:Int)<(x.st.length:Int))=True:=aG ag;have bk:=aX k;have b8:=aZ k;have a6:(x.st.map ji)[k]?=some (ji x.st[k]):=bZ P;have e1:DC x k=x.st[k].rv.ar:=by unfold DC;rw[az P]
   have e2:MY x k=x.st[k].rv:=by unfold MY;rw[az P]
   obtain⟨u,hu⟩:=oX x.st[k];rw[<-hu] at a6 e1 e2;simp only[ji] at a6;refine tn (ej a8 q1 bk b8 a6 P ag) ?_;exact⟨rfl,rfl,rfl,rfl,by rw[e1] <;> rfl,rfl,⟨_,by rw[e2];exact CS _,rfl⟩⟩
  ·have q1:=lF k x.st.length
   have e1:DC x k=x.tm.ar:=by unfold DC;rw[lu (by omega)]
   have e2:MY x k=⟨0,0,0,false,⟨0,[]⟩,[]⟩:=by unfold MY;rw[lu (by omega)]
   refine tn (av a8 q1) ?_;exact⟨rfl,rfl,rfl,rfl,by rw[e1] <;> rfl,rfl,⟨_,by rw[e2];exact⟨fG _,fG _,fG _,fG _,fG _,fO,fO,trivial⟩,rfl⟩⟩
 clear N a2 a8 ap ad b3 al b0;rintro s ⟨A,f3,f5,f7,f8,f9,cs,aw,V⟩;refine V1 9 H (.rp (uo (MY x k))) (by rw[V];exact aQ (aF _) a5) (by
  rw[f9];exact(HQ (i:=0) (k:=0) (by rw[V];exact aQ (aF _) a5) (by rw[V];exact aK _ _ _) a5 rfl).imp (SH aw)) ?_
 refine tq f8 ?_;intro U Y O C;refine(TX _ _).qt ?_;intro U Y O C;refine iz (λs2=>s2.df=[]/\s2.fr 3=.rp [yD l]/\s2.fr 5=i64 k/\s2.fr 7=.rp (dM x)/\s2.fr 9=.rp (uo (MY x k))/\s2.fr 45=.fn 316 [.rp [.seq 4 ((DC x k).map db)]]/\s2.H=H) ⟨A,f3,f5,f7,rfl,rfl,rfl⟩ ?_;clear A f3 f5 f7 f8 f9 aw V;rintro s2 ⟨A,f3,f5,f7,f9,b7,hH⟩;refine lC rfl b2 b7 (λ_ _=>trivial) (by simp) (λ_=>rfl) (λc=>H c=none) (λc h=>by rw[hH] at h;exact h) (λw Hc=>J w Hc) (λ_ _ _ _=>trivial) (λe w Hc=>e=.ret/\∃pr,Jx pr Hc) ?_ ?_ ?_ ?_ ?_ ?_
 ·rw[hH];exact hC
 ·rw[hH];exact λe w H' c o h0 hz ⟨h1,pr,v⟩=>⟨h1,pr,b9 _ _ _ _ h0 hz v⟩
 ·rw[hH];exact hJ
 ·rintro l2 w1 w a Hc o g1 a4 b5 hj b1 a7
  simp only[acE];rw[Ls];refine tq (eP cR cO cE au A @Xn.eq_1) ?_;intro U Y O C;intro I a1;refine Y _ ?_;simp only[cF];have l5:l2≠I:=λe=>by rw[e,a1] at a7;cases a7
  refine⟨rfl,λc o' _ h=>(aJ (λe=>by rw[e,a1] at h;cases h)).trans h,λw2 y g2 hE=>?_⟩;refine dZ 10 rfl (b:=I) (by simp only[iN,cO,fS];rw[aJ (Ne.symm l5),aK]) rfl ?_;simp only[St.ku,iN,cO,fS,fC,au,eL,kC (Ne.symm l5),kX,iy a1,List.drop];have bf:J w (Hc.aU l2 (.obj y)):=hC _ _ _ _ a4 (λz h=>⟨_,by rw[a7] at h;injection h with h;exact h.symm⟩) hj;have ae:∀(x:cY) (H':aA),(∀c o',H c=none->(Hc.aU l2 (.obj y)) c=some (.obj o')->H' c=some (.obj o'))->(∀o',x≠ .obj o')->mI (λc=>H c=none) ((Hc.aU I x).aU l2 (.obj y)) H':=λx H' h hx c o' bb v=>by
   refine h c o' bb ?_;by_cases e:c=l2
   ·rw[e,aK] at v ⊢;exact v
   ·rw[aJ e] at v ⊢
    by_cases e2:c=I
    ·rw[e2,aK] at v;injection v with v;exact absurd v (hx o')
    ·rwa[aJ e2] at v
  (iterate 2 (refine tk trivial ?_;intro U Y O C));(have fs:=And.intro f3 (And.intro cR (And.intro cO (And.intro cE au)));refine x9 (2) (by kernel_rfl) ?_;refine Rw ?_;(try clear fs));refine lA rfl (nu w a rfl rfl rfl (by simp [qP]) hY hE (b5.trans (by rw[f];exact List.prefix_append _ _)) bf rfl (λH' g j=>?_) λH' g j=>?_)
  ·refine tn (cA cR cO cE au) ?_
   exact⟨rfl,ae _ _ j (by simp),g⟩
  ·refine tn (cA cR cO cE au) ?_
   exact⟨rfl,ae _ _ j (by simp),rfl,_,g⟩
 ·rintro ys Hc M bc hj b1 hM m
  subst bc;rw[mK,cp,cF,A];obtain⟨R,hR⟩:=oX (MY x k);rw[<-hR] at f9 f;obtain⟨Ar,hA⟩:=oX (B2 (DC x k));rw[<-hA] at f hj;rw[hH] at m;have T:∀s:St,s.df=[oN M]->s.H M=some (.obj xl)->Xq H s.df s.H:=λs h1 v=>by rw[h1];exact⟨M,rfl,m,v,trivial⟩
  refine iz (λs3=>s3.df=[oN M]/\s3.fr 3=.rp [yD l]/\s3.fr 5=i64 k/\s3.fr 7=.rp (dM x)/\s3.fr 9=.rp (uo R)/\s3.H=Hc) ⟨rfl,f3,f5,f7,f9,rfl⟩ ?_;rintro s3 ⟨a3,g3,g5,g7,g9,gH⟩;have jM:s3.H M=some (.obj xl):=by rw[gH];exact hM
  have jj:J Ar s3.H:=by rw[gH];exact hj
  obtain⟨rk,bq,br,ab,⟨aa,ac⟩,bo⟩:=R;simp only[uo] at g9;simp only at f;refine bW ?_;refine rl (λs4=>s4.df=[oN M]/\s4.fr 3=.rp [yD l]/\s4.fr 5=i64 k/\s4.fr 7=.rp (dM x)/\s4.H M=some (.obj xl)/\J (Ar++(if rk=1 then [⟨⟨aa,ac⟩,ab,true⟩] else [])) s4.H) ?_ ?_
  ·by_cases hb:rk=1
   ·have p1:(rk=1)=True:=aG hb
    rw[aD hb] at f ⊢;refine bW ?_;(have fs:=And.intro g3 (And.intro g9 (And.intro p1 @yD.eq_1));refine x9 (10) (by kernel_rfl) ?_;refine Rw ?_;(try clear fs));refine pj rfl rfl (t:=54) (Nat.le_of_ble_eq_true rfl) (by simp) (.inl ⟨true,rfl,λ_=>nu Ar ⟨⟨aa,ac⟩,ab,true⟩ rfl rfl rfl (by simp [qP]) hY (dr _ _) (by rw[f];exact⟨_,bE _ _ _⟩) jj rfl (λH' g j=>?_) λH' g j=>?_,λh=>by cases h⟩)
    ·refine tz ?_
     exact⟨a3,g3,g5,g7,j _ _ m jM,g⟩
    ·refine tz ?_
     exact⟨by simp,aB _ _ (.inr rfl) (T _ a3 (j _ _ m jM)) (.inr ⟨_,g⟩)⟩
   ·have p1:(rk=1)=False:=aI hb
    rw[aC hb];refine tn (av g9 p1) ?_;exact⟨a3,g3,g5,g7,jM,by rw[bz];exact jj⟩
  rintro s4 ⟨a9,k3,k5,k7,kM,kj⟩;obtain⟨Bw,hB⟩:=oX (Ar++(if rk=1 then [(⟨⟨aa,ac⟩,ab,true⟩:Qn)] else []));rw[<-hB] at kj;rw[<-bE,<-hB] at f;clear hB;obtain⟨Z,hZ⟩:=oX (oq x k);rw[<-hZ] at f a0;clear hZ;obtain⟨⟨wl,wp⟩,ww,wa⟩:=Z;simp only[dM] at k7 a0;simp only at f;refine tq (av k5 k7) ?_;intro U Y O C;refine(a0 _).qs (av @U1.eq_1 @ee.eq_1) ?_;intro U Y O C;intro bm b6;refine Y _ ?_;refine cm 11 b6 ?_;cases ww
  ·rw[aC (by decide),bz] at f
   rw[f] at aB;refine t0 ?_;intro U Y O C;exact aB _ _ (.inl rfl) (T _ a9 kM) (.inl kj)
  ·rw[aD rfl] at f
   (iterate 3 (refine tk k3 ?_;intro U Y O C));(have fs:=And.intro k3 @yD.eq_1;refine x9 (3) (by kernel_rfl) ?_;refine Rw ?_;(try clear fs));refine lA rfl (nu Bw ⟨⟨wl,wp⟩,true,false⟩ rfl rfl rfl (by simp [qP]) hY (dr _ _) (by rw[f];exact List.prefix_refl _) kj rfl (λH' g j=>?_) λH' g j=>?_)
   ·refine t0 ?_;intro U Y O C
    rw[f] at aB;exact aB _ _ (.inl rfl) (T _ a9 (j _ _ m kM)) (.inl g)
   ·refine t0 ?_;intro U Y O C
    exact aB _ _ (.inl rfl) (T _ a9 (j _ _ m kM)) (.inr ⟨_,g⟩)
 ·rintro e c w Hc M he ⟨rfl,pr,hj⟩ b1 hM m
  rw[mK,eU,fW,A];rw[hH] at m;exact aB _ _ (.inr rfl) ⟨M,rfl,m,hM,trivial⟩ (.inr ⟨_,hj⟩)
theorem V9 (b:bn)(p:Int)(H:aA):aN prog 179 [.agg (cu b),i64 p] H λd H'=>d=.fn 252 [.rp (cu b),.rp [i64 p]]/\H=H':=by
 unfold cu;refine dO func179 ntmps179 results179 λm l Q g=>?_;refine t0 ?_;intro U Y O C;intro h c j f;refine Y _ ?_;refine uB 2 3 c f ?_;refine u0 g ?_;exact⟨_,aF _,by first|rfl|exact⟨rfl,rfl⟩⟩
def YK (x:im) (k:Nat):Prop:=cH (DC x k).length/\∀a∈Mj x k,cH a.pl.pr.length
theorem SN (b:bn)(p:Int)(i k:Nat)(l:pT)(H:aA)(hi:i<b.bl.length)(ad:At (fD b) p i k)(hc:bu (fD b)<=1000000)(ho:YK b.bl[i] k)(hl:cH l.pl.pr.length):
  aN prog 98 [.agg (cu b),i64 p,.agg (pF l)] H λd H'=>d=.val (.bool (HY b.bl[i] k l))/\H=H':=by
 have a7:=RP b p i k hi ad hc ho.1;have a5:=λa (ha:a∈Mj b.bl[i] k) H1=>WA a l H1 (ho.2 a ha) hl;have ac:=λH1=>V9 b p H1;obtain⟨xs,a0⟩:=oX (Mj b.bl[i] k);have a6:HY b.bl[i] k l=xs.any λa=>Kf a l:=by rw[a0];rfl
 rw[a6];rw[<-a0] at a7 a5;clear a0 a6 ho;refine aq (K:=λd=>d=.val (.bool (xs.any λa=>Kf a l))) ?_;unfold cu pF at *;refine lH _ _ func98 rfl rfl ntmps98 results98 (by simp) λw0 g0 Q aB=>?_;refine t0 ?_;intro U Y O C;intro c3 a3 c5 a4 u T;refine Y _ ?_;refine Mg 3 5 (by decide) rfl rfl rfl a3 a4 T ?_;have J:=(bF.1 (bF.1 T).2).2;clear a3 a4 T;refine t0 ?_;intro U Y O C;refine(ac _).qt ?_;intro U Y O C;have m:H.le (H.aU u (.row 4 0 1 [[.val (.bool false)]])):=aQ (aF _) J;refine iz (λs=>s.df=[]/\s.fr 5=.rp [i64 l.rg,i64 l.pt,.val (.bool l.mu),i64 l.pl.lo,.seq 2 (l.pl.pr.map pD)]/\s.fr 6=.ep u 0 1 0 0/\s.fr 10=.fn 252 [.rp [bC b.nm,.seq 1 (b.rg.map sD),.seq 2 (b.ol.map pD),.seq 5 (b.ty.map bS),.seq 2 (b.lc.map eQ),i64 b.ag,.seq 7 (b.bl.map dM)],.rp [i64 p]]/\s.H=H.aU u (.row 4 0 1 [[.val (.bool false)]])) ⟨rfl,rfl,rfl,rfl,rfl⟩ ?_;rintro s ⟨Z,f5,N,ab,g⟩;refine kZ rfl a7 ab (λ_ _=>trivial) (by simp) (λ_=>rfl) (λj Hc=>(∀a∈j,Kf a l=false)/\H.qb.le Hc/\Hc u=some (.row 4 0 1 [[.val (.bool false)]])) (λe j Hc=>e=.ret/\(∃a∈xs,Kf a l=true)/\H.qb.le Hc/\Hc u=some (.row 4 0 1 [[.val (.bool true)]])) ?_ ?_ ?_ ?_ ?_ ?_
 ·rintro j H1 H2 hr ⟨P,v,f⟩
  exact⟨P,gO (jK H) v hr,hr _ _ f (by simp)⟩
 ·rintro e j H1 H2 hr ⟨P,v,f,h4⟩
  exact⟨P,v,gO (jK H) f hr,hr _ _ h4 (by simp)⟩
 ·exact⟨by simp,iL (uV H) (by rw[g];exact m),by rw[g];exact aK _ _ _⟩
 ·rintro l2 w1 j a Hc o g1 aa ⟨P,v,f⟩ G A
  simp only[acE];rw[Ls];refine tq (eP cR cO cE au Z @Xn.eq_1) ?_;intro U Y O C;intro c7 V;refine Y _ ?_;simp only[cF];refine⟨rfl,gE.new (jU _) V,λw2 y g2=>?_⟩;have l5:l2≠c7:=λe=>by rw[e,V] at A;cases A
  have n6:u≠l2:=λe=>by rw[e,A] at f;cases f
  refine dZ 7 rfl (b:=c7) (by simp only[iN,cO,fS];rw[aJ (Ne.symm l5),aK]) rfl ?_;simp only[St.ku,iN,cO,fS,fC,au,eL,kC (Ne.symm l5),kX,iy V,List.drop];have a1:=λ(x:cY) (hx:∀o,x≠ .obj o)=>oC (H:=Hc) (b:=c7) (l:=l2) (y:=y) hx;have r6:(Hc.aU l2 (.obj y)) u=some (.row 4 0 1 [[.val (.bool false)]]):=(aJ n6).trans f;have a2:a∈xs:=aa.subset (by simp);have t:=a5 a a2;unfold Xn at t;have a8:=gO (jK H) v (kA (x:=.obj y) A);by_cases hq:Kf a l=true
  ·rw[hq] at t
   refine tq (cw f5 cR cO cE au) ?_;intro U Y O C;refine(t _).qs (eP N cR cO cE au r6) ?_;intro U Y O C;simp only[fL,eU,fW];exact⟨rfl,(a1 _ (by simp)).row r6 (by simp),by first|rfl|trivial,⟨a,a2,hq⟩,aQ a8 (jL J),aK _ _ _⟩
  ·have a9:Kf a l=false:=by cases h:Kf a l;rfl;exact absurd h hq
   rw[a9] at t;refine tq (cw f5 cR cO cE au) ?_;intro U Y O C;refine(t _).qs (cw N cR cO cE au) ?_;intro U Y O C;refine⟨rfl,a1 _ (by simp),λz hz=>?_,a8,r6⟩;rcases bB.1 hz with hz|hz
   ·exact P z hz
   ·rw[bM.1 hz];exact a9
 ·rintro Hc M ⟨P,v,f⟩ G hD R
  rw[mK,cp,cF,Z];have w:u≠M:=λe=>by rw[e,hD] at f;cases f
  have I:(xs.any λa=>Kf a l)=false:=List.any_eq_false.2 λa ha=>by rw[P a ha];decide
  rw[I] at aB;refine tq (av N f) ?_;intro U Y O C;refine aB _ _ (.inr rfl) ?_ ?_
  ·refine eG N ?_
   refine Ql ?_;rw[aJ (Ne.symm w)];exact hD
  ·refine eG N ?_
   rw[sP];simp (maxSteps:=4000000) only[vX,vB,vT,vZ,ij,fh,Fp,yk,AX,gV,fE,fj,↓iR,yb,cU,DJ,ze,By,oi,od,pn,po,ki,j8,kh,ic,D.nilPtr,D.iM,D.iF,fH,Bj,CE,wX,gy,jw,fieldsOf,gU,B6,B7,B8,B9,sL,BT,D.cells,jx,DE,DB,pv,eK,eH,B3,BR,jd,EC,rS,Be,gP,TD.gX,TD.agg,Eo,rU,oe,FI,nZ,pY,pX,Ba,B5,mF,pZ,dR,eT,Value.oneCell',iX,iV,gp,reduceCtorEq,kY,iZ,dN,dY,↓reduceIte,Nat.reduceEqDiff,Int.reduceLE,Int.reduceLT,Int.reduceNeg,Int.reduceToNat,Nat.reduceAdd,Nat.reduceMul,Nat.reduceLeDiff,Nat.reduceMod,Nat.reduceSub,Int.reduceEq,Int.reduceNe,Int.reduceAdd,Int.reduceSub,Int.reduceMul,iW,cR,cO,cE,au,cF,fW,cp,eU,fK,fL,fQ,fR,fP,i64,N,aJ w];have g2:=lO v (H1:=s.H) (by rw[g];exact m) G;exact⟨H,aQ (aQ g2 J) (iY (H':=s.H) (by rw[g];exact m) R),aF _,_,aL (aF _),rfl⟩
 ·rintro e c j Hc M hj ⟨rfl,⟨a,ha,hq⟩,v,f⟩ G hD R
  rw[mK,Z];have w:u≠M:=λe=>by rw[e,hD] at f;cases f
  have I:(xs.any λa=>Kf a l)=true:=tO.2 ⟨a,ha,hq⟩;rw[I] at aB;simp only[eU,fW];refine aB _ _ (.inr rfl) (Ql hD) ?_;show pZ _ {s with H:=xL [oN M] Hc,df:=[]} _ _;rw[sP];simp (maxSteps:=4000000) only[vX,vB,vT,vZ,ij,fh,Fp,yk,AX,gV,fE,fj,↓iR,yb,cU,DJ,ze,By,oi,od,pn,po,ki,j8,kh,ic,D.nilPtr,D.iM,D.iF,fH,Bj,CE,wX,gy,jw,fieldsOf,gU,B6,B7,B8,B9,sL,BT,D.cells,jx,DE,DB,pv,eK,eH,B3,BR,jd,EC,rS,Be,gP,TD.gX,TD.agg,Eo,rU,oe,FI,nZ,pY,pX,Ba,B5,mF,pZ,dR,eT,Value.oneCell',iX,iV,gp,reduceCtorEq,kY,iZ,dN,dY,↓reduceIte,Nat.reduceEqDiff,Int.reduceLE,Int.reduceLT,Int.reduceNeg,Int.reduceToNat,Nat.reduceAdd,Nat.reduceMul,Nat.reduceLeDiff,Nat.reduceMod,Nat.reduceSub,Int.reduceEq,Int.reduceNe,Int.reduceAdd,Int.reduceSub,Int.reduceMul,iW,cR,cO,cE,au,cF,fW,cp,eU,fK,fL,fQ,fR,fP,i64,N,aJ w,f];rw[sP];have g2:=lO v (H1:=s.H) (by rw[g];exact m) G;exact⟨H,aQ g2 (iY (H':=s.H) (by rw[g];exact m) R),aF _,_,aL (aF _),rfl⟩
theorem S4 (x:im)(k:Nat)(l:pT):Dr x k l=((oq x k).2.2&&(IB (oq x k).1 l.pl&&DU l.pl (oq x k).1.pr.length)):=by
 unfold Dr asB oq;cases x.st[k]? with
 |some s=>
  simp only
  by_cases b:s.k=0
  ·rw[aD b,aD b];rfl
  ·by_cases c:s.k=1
   ·rw[aC b,aC b,aD c];rfl
   ·rw[aC b,aC b,aC c];rfl
 |none=>
  simp only
  by_cases h:x.tm.k=3
  ·rw[aD h,ah h];rfl
  ·rw[aC h,af h];rfl
theorem S5 (b:bn)(p:Int)(i k:Nat)(l:pT)(H:aA)(hi:i<b.bl.length)(u:At (fD b) p i k)(hc:bu (fD b)<=1000000)(w:cH (oq b.bl[i] k).1.pr.length)(hl:cH l.pl.pr.length):
  aN prog 97 [.agg (cu b),i64 p,.agg (pF l)] H λd H'=>d=.val (.bool (Dr b.bl[i] k l))/\H=H':=by
 obtain⟨K0,c⟩:=oX (Dr b.bl[i] k l);rw[<-c];rw[S4] at c;refine aq (K:=λd=>d=.val (.bool K0)) ?_;have o:=aF H;have I:=λg=>Hf b p b.bl[i] k i u g hc;have V:b.bl[i].st.length<=1000000:=by
  have h1:=vS (Nat.lt_succ_self i) (show i<(fD b).length by rw[pB];exact hi);have M:=sH (G:=fD b) (i:=i+1);rw[sc hi] at h1;simp only[Nat.succ_eq_add_one] at *;omega
 have t:k<=b.bl[i].st.length:=by
  obtain⟨h1,M,h3⟩:=u;rw[sc hi] at M;exact M
 have f:=λg=>Cr b.bl[i] k g (by unfold cH;omega) t;have j:(b.bl.map dM)[i]?=some (dM b.bl[i]):=bZ hi;have T:=lm dM b.bl;have N:=vc (fD b);rw[pB] at N;obtain⟨x,hx⟩:=oX b.bl[i];rw[<-hx] at f j c w;obtain⟨Z,hZ⟩:=oX (oq x k);rw[<-hZ] at f w c;clear hx hZ V t;obtain⟨s,ww,wa⟩:=Z;have m:=λg=>P0 s l.pl g w hl;have h:=λg=>F6 l.pl s.pr.length g hl w;have v:=lm pD s.pr;simp only at c;obtain⟨E,hE⟩:=oX (IB s l.pl);obtain⟨G,hG⟩:=oX (DU l.pl s.pr.length);rw[<-hE] at m c;rw[<-hG] at h c;clear hE hG;obtain⟨a2,a3⟩:=s;obtain⟨lr,lp,lm,⟨ll,lq⟩⟩:=l;simp only[ee] at m h v;simp only[dM] at j f;unfold cu pF at *;have a0:=aX i;have J:=aZ i;have z:(i:Int)<(b.bl.length:Int):=by omega
 refine dO func97 ntmps97 results97 λw0 g0 Q y=>?_;refine t0 ?_;intro U Y O C;intro c3 P c5 R;refine Y _ ?_;refine uB 3 5 P R ?_;refine t0 ?_;intro U Y O C;refine(I _).qs (eP T j a0 J hi z) ?_;intro U Y O C;refine(f _).qs (av @U1.eq_1 @ee.eq_1) ?_;intro U Y O C;intro a1 A;refine Y _ ?_;refine cm 10 A ?_;cases wa
 ·refine u0 y ?_
  exact⟨_,aF _,o,_,aL o,by rw[c] <;> rfl⟩
 refine t0 ?_;intro U Y O C;refine(m _).q ?_;cases E
 ·refine u0 y ?_
  exact⟨_,aF _,o,_,aL o,by rw[c] <;> rfl⟩
 refine tq v ?_;intro U Y O C;refine(h _).q ?_;refine u0 y ?_;exact⟨_,aF _,o,_,aL o,by rw[c] <;> rfl⟩
def Gd (H0:aA) (Ds:List Nat) (Hs:aA):Prop:=Ds.Nodup/\∀D∈Ds,H0 D=none/\Hs D=some (.obj xl)
theorem Gd.mk:∀{Ds:List Nat}{Hs:aA},Gd H0 Ds Hs->mk (Ds.map oN) Hs
 |[],_,_=>trivial
 |D::Ds,Hs,⟨h1,h2⟩=>by
  rw[pO] at h1;exact⟨D,rfl,(h2 D (by simp)).2,Gd.mk ⟨h1.2,λE hE=>⟨(h2 E (dH _ hE)).1,by rw[aJ (λe=>h1.1 (by rw[<-e];exact hE))];exact(h2 E (dH _ hE)).2⟩⟩⟩
theorem EG:∀{Ds:List Nat}{Hs:aA}{b:Nat},b∉Ds->xL (Ds.map oN) Hs b=Hs b
 |[],_,_,_=>rfl
 |D::Ds,Hs,b,h=>by
  rw[bV,not_or] at h;show xL (Ds.map oN) (Hs.aU D .hid) b=_;rw[EG h.2,aJ h.1]
theorem Gd.le (h:Gd H0 Ds Hs)(f:H0.le Hs):H0.le (xL (Ds.map oN) Hs):=λb x c=>by rw[EG (λg=>by rw[(h.2 b g).1] at c;cases c)];exact f _ _ c
theorem Gd.at (h:Gd H0 Ds Hs){b:Nat}{x:cY}(hb:Hs b=some x)(hx:∀o,x≠ .obj o):xL (Ds.map oN) Hs b=some x:=by rw[EG (λc=>by have:=(h.2 b c).2;rw[hb] at this;injection this with this;exact hx _ this)];exact hb
theorem Gd.cM (h:Gd H0 Ds Hs)(ho:gE Hs H'):Gd H0 Ds H':=⟨h.1,λD b=>⟨(h.2 D b).1,ho _ _ (h.2 D b).2⟩⟩
theorem Gd.more {D:Nat}(h:Gd H0 Ds Hs)(ho:gE Hs H')(h0:H0 D=none)(hn:Hs D=none)(b:H' D=some (.obj xl)):Gd H0 (D::Ds) H':=
 ⟨pO.2 ⟨λc=>(by have:=(h.2 D c).2;rw[hn] at this;cases this),h.1⟩,λE hE=>by
  rcases bV.1 hE with rfl|hE
  ·exact⟨h0,b⟩
  ·exact(h.cM ho).2 E hE⟩
theorem Gk.Am {d:D}(h:Gk H0 e sz els d H ob)(hr:Am H H'):Gk H0 e sz els d H' ob:=by
 rcases h with s|⟨c,o,k,b,f,g,j,l,m⟩
 ·exact .inl s
 ·exact .inr ⟨c,o,k,b,f,g,j,hr _ _ l (by simp),m⟩
theorem WV {d:D}(h:Gk H.qb e sz els d Hc ob)(l:H.le Hc):Gk H e sz els d Hc ob:=by
 rcases h with u|⟨c,o,k,f,m,s,g,j,t⟩
 ·exact .inl u
 ·refine .inr ⟨c,o,k,f,m,s,?_,j,t⟩
  cases e:H c with
  |none=>rfl
  |some x=>
   have b:=l _ _ e
   rw[j] at b
   injection b with b
   have:=ie e (by rw[<-b];simp)
   rw[this] at g;cases g
theorem Gk.base {H1:aA}{d:D}(h:Gk H0 e sz els d Hc ob)(hn:∀b,H0 b=none->H1 b=none):Gk H1 e sz els d Hc ob:=by
 rcases h with t|⟨c,o,k,f,g,j,l,m,s⟩
 ·exact .inl t
 ·exact .inr ⟨c,o,k,f,g,j,hn _ l,m,s⟩
structure U6 (H:aA) (bm c6:Nat) (B:List (Int×Int)) (Q:List Int) (Hs:aA):Prop where
 le:H.le Hs
 mb:Hs bm=some (.map (I7 B))
 q:∃x ob,Hs c6=some (.row 37 0 1 [[x]])/\Gk H 3 1 (Q.map iD) x Hs ob/\ob≠some c6
theorem U6.Am {c f:Nat}{Q:List Int}{b:aA}(h:U6 H.qb c f B Q Hs)(hr:Am Hs b):U6 H.qb c f B Q b:=by
 obtain⟨g,j,x,ob,l,m,o⟩:=h;exact⟨gO (jK H) g hr,hr _ _ j (by simp),x,ob,hr _ _ l (by simp),m.Am hr,o⟩
structure ScI (H:aA) (xD:D) (i:Nat) (bm c6:Nat) (s:St):Prop where
 df:∃Ds,s.df=Ds.map oN/\Gd H Ds s.H
 f0:s.fr 0=xD
 f1:s.fr 1=i64 i
 f5:s.fr 5=.rp [.val (.map (some bm))]
 f6:s.fr 6=.ep c6 0 1 0 0
theorem Bf.in {i:Int}(h:Bf (Gg E K L i r) a B)(f:q∈nO B):∃p,(p,q)∈E:=by
 obtain⟨p,c⟩:=qZ.1 f;obtain⟨j,b,e⟩:=kV c;have:=(h.pr j b).1;rw[e] at this;exact⟨p,(ve.1 this).2.1⟩
theorem Bf.len {i:Int}(h:Bf (Gg E K L i r) a B)(hE:∀e∈E,bN n e.2):B.length<=n:=by
 have:=ju (n:=n) h.nd λq c=>by obtain⟨p,b⟩:=h.in c;exact hE _ b
 unfold nO at this;rwa[aS,aX] at this
theorem Tv (m:List pT)(E K V L:List (Int×Int))(R T Z b4:Nat)(m1:List (Value×D))(i n:Nat)(hi:i<m.length)(H:aA)(rV:fZ m1 λx=>Aa (fA E x))(hn:n<=300)(hE:E.length<=1000000)
  (dy:∀y∈K,du y.1/\du y.2) (dz:∀y∈L,du y.1/\du y.2) (eR:∀y∈E,bN n y.1/\bN n y.2) (c9:du i) (e6:du m[i].rg) (aR:bN n m[i].pt) (a3:U3 E K V L R T Z b4 m1 H):
  aN prog 183 [JP m E K V L R T Z b4,i64 i] H λd H'=>∃j B,d=.val (.map (some j))/\H j=none/\M5 (Gg E K L i m[i].rg) m[i].pt B []/\H.le H'/\H' j=some (.map (I7 B)):=by
 have cl:∀y∈E,du y.1/\du y.2:=λy hy=>by have:=eR y hy;unfold bN at this;unfold du;omega
 have I:=λp (hp:du p)=>QC m E K V L R T Z b4 m1 i hi p rV hE dy dz cl hp c9 e6;have dm:=lm pF m;have hx:=aX i;have ct:=aZ i;have bt:(i:Int)<(m.length:Int):=by omega
 have ad:(List.map pF m)[i]?=some (pF m[i]):=bZ hi;obtain⟨r,hr⟩:=oX m[i];rw[<-hr] at ad aR I ⊢;simp only[pF] at ad;have a7:∀B,Bf (Gg E K L i r.rg) r.pt B->∀q∈nO B,bN n q:=λB h q hq=>by obtain⟨p,hp⟩:=h.in hq;exact(eR _ hp).2
 have a1:∀B,Bf (Gg E K L i r.rg) r.pt B->B.length<=n:=λB h=>h.len λe he=>(eR e he).2;have ap:∀p q,q∈Gg E K L i r.rg p->bN n q:=λp q h=>(eR _ (ve.1 h).2.1).2;obtain⟨f,hf⟩:=oX (Gg E K L i r.rg);rw[<-hf] at a7 a1 ap ⊢;have b9:∀p,du p->ph prog 317 [.rp [JP m E K V L R T Z b4],.rp [i64 i],.rp [i64 p]] (λq:Int=>[i64 q]) (·<+:f p) (·=f p) (U3 E K V L R T Z b4 m1) (U3 E K V L R T Z b4 m1):=λp hp=>by rw[hf];exact I p hp
 clear I;obtain⟨X,hX⟩:=oX ([D.seq 5 (List.map pF m),D.seq 2 (List.map pD E),D.seq 2 (List.map pD K),D.seq 2 (List.map pD V),D.seq 2 (List.map pD L),.val (.map (some R)),.val (.map (some T)),.val (.map (some Z)),.val (.map (some b4))]);have dx:JP m E K V L R T Z b4=.rp X:=by rw[hX];rfl
 rw[dx] at b9 ⊢;have dv:=λp H1=>UD X i p H1;refine lH _ _ func183 rfl rfl ntmps183 results183 (by simp) λw0 g0 Qx aB=>?_;refine t0 ?_;intro U Y O C;intro j ab c5 bi;refine Y _ ?_;obtain⟨ed,e7⟩:=bF.1 bi;refine cm 5 bi ?_;refine to (ej hX ad hx ct bt hi dm) ?_;intro U Y O C;intro cq de v dd;refine Y _ ?_;obtain⟨e0,b8⟩:=bF.1 de;obtain⟨bs,ch⟩:=bF.1 dd;obtain⟨a4,a5⟩:=bF.1 ch;refine t0 ?_;intro U Y O C;refine jz (λk s=>ScI H (.rp X) i j v s/\∃B Q,k=Q.length+2 * (n - B.length)/\M5 f r.pt B Q/\U6 H j v B Q s.H) (1+2 * n) ⟨⟨⟨[],rfl,List.nodup_nil,by simp⟩,by rw[hX] <;> rfl,rfl,rfl,rfl⟩,[],[r.pt],rfl,M5.init,aQ (aQ (aQ (aF _) ab) b8) a5,(aJ a4.symm).trans ((aJ e0.symm).trans (aK _ _ _)),_,some cq,aK _ _ _,.inr ⟨cq,0,0,[[i64 r.pt]],rfl,rfl,b8,(aJ bs.symm).trans (aK _ _ _),rfl,by simp⟩,λe=>bs (by injection e with e;exact e.symm)⟩ ?_;rintro k s ⟨⟨⟨Ds,t,u⟩,f0,f1,f5,N⟩,B,Q,rfl,a0,aM,ag,x,ob,h6,hg,a8⟩;cases Q with
 |nil=>
  have q0:∃c o k',x=.val (.slice none 0 0)\/x=.os c o 1 k' 0:=by
   rcases hg with⟨_,h,_⟩|⟨c,o,k',_,_,h,_⟩
   ·exact⟨0,0,0,.inl h⟩
   ·exact⟨c,o,k',.inr h⟩
  obtain⟨c,o,k',q0⟩:=q0
  clear hg
  have aw:∀s':St,s'.df=Ds.map oN->s'.H=s.H->s'.fr 4=.val (.map (some j))->Qx .ret s':=λs' e1 e2 e3=>by
   refine aB _ _ (.inr rfl) ?_ ?_
   ·rw[e1,e2];exact u.mk
   ·rw[e1,e2]
    refine eG e3 ?_;exact⟨_,aF _,j,B,rfl,ab,a0,u.le aM,u.at ag (by simp)⟩
  rcases q0 with rfl|rfl
  ·refine tq (bQ f5 N h6) ?_;intro U Y O C
   exact aw _ t rfl rfl
  ·refine tq (bQ f5 N h6) ?_;intro U Y O C
   exact aw _ t rfl rfl
 |cons p Q=>
  obtain⟨c,o,kq,P,rfl,rfl,bf,a9,dk,e8,bq,bl,c8⟩:=Gk.cons (show Gk H 3 1 (iD p::Q.map iD) x s.H ob from hg)
  have ba:=a0.pop
  have dp:bN n p:=by
   rcases ba.pk with h|h
   ·rw[h];exact aR
   ·exact a7 B a0.b p h
  have c3:du p:=by unfold bN at dp;unfold du;omega
  have I:=b9 p c3
  have q1:=nT ((0:Int)<((Q.length+1:Nat):Int))
  have q2:=nF (((Q.length+1:Nat):Int)=0)
  have w1:=nT ((1:Int)<=((Q.length+1:Nat):Int))
  have b5:P[kq]?=some [.val (.int .i64 p)]:=bq
  have cc:=lm iD Q
  rw[cc] at h6
  refine tq (eP N h6 q1 q2 a9 b5) ?_;intro U Y O C
  intro c7 bk
  refine Y _ ?_
  refine cm 7 bk ?_
  refine tq (cw f0 f1 N h6 w1) ?_;intro U Y O C
  refine(dv p _).qt ?_;intro U Y O C
  have e1:Q.length+1 - 1=Q.length:=by omega
  rw[e1]
  have bc:U6 H j v B Q (s.H.aU v (.row 37 0 1 [[.os c o 1 (kq+1) Q.length]])):=⟨aQ aM a5,(aJ a4.symm).trans ag,_,some c,aK _ _ _,.inr ⟨c,o,kq+1,P,rfl,by rw[aS],bf,(aJ (λe=>a8 (by rw[e]))).trans a9,bl,c8⟩,a8⟩
  have be:Gd H Ds (s.H.aU v (.row 37 0 1 [[.os c o 1 (kq+1) Q.length]])):=u.cM λb z hz=>by rw[aJ (λe=>by rw[e,h6] at hz;cases hz)];exact hz
  refine iz (λs2=>s2.df=Ds.map oN/\s2.fr 0=.rp X/\s2.fr 1=i64 i/\s2.fr 5=.rp [.val (.map (some j))]/\s2.fr 6=.ep v 0 1 0 0/\s2.fr 7=.rp [i64 p]/\s2.fr 33=.fn 317 [.rp [.rp X],.rp [i64 i],.rp [i64 p]]/\U6 H j v B Q s2.H/\Gd H Ds s2.H) ⟨t,f0,f1,f5,N,rfl,rfl,bc,be⟩ ?_
  clear bc be b5 bl dk bq a9 bf h6 ag aM u N f5 f1 f0 t hg a8 bk
  clear s
  rintro s ⟨t,f0,f1,f5,N,f7,cr,aa,u⟩
  have e9:=a1 B a0.b
  have b7:U6 H.qb j v B Q s.H:=by
   obtain⟨A,h2,y,ob,h3,h4,h5⟩:=aa;exact⟨iL (uV H) A,h2,y,ob,h3,h4.base λb=>jL,h5⟩
  have ci:∀Hc,gE s.H Hc->H.qb.le Hc->H.le Hc:=λHc A h2=>lO h2 aa.le A
  have b6:∀Hc,H.qb.le Hc->U3 E K V L R T Z b4 m1 Hc:=λHc h=>⟨h _ _ (ie a3.m1 (by simp)),h _ _ (ie a3.m2 (by simp)),h _ _ (ie a3.m3 (by simp)),h _ _ (ie a3.m4 (by simp))⟩
  refine lC rfl I cr (λH' h=>b6 H' (iL b7.le h)) (by simp) (λ_=>rfl) (λ_=>True) (λ_ _=>trivial) (λam Hc=>∃g w,Qj f r.pt g w p am/\(w.length+B.length=Q.length+g.length/\B.length<=g.length)/\U6 H.qb j v g w Hc) (λ_ Hc h _=>by obtain⟨_,_,_,_,h⟩:=h;exact b6 Hc h.le) (λ_ _ _=>False) ?_ ?_ ?_ ?_ ?_ ?_
  ·rintro am H1 b o _ hz ⟨g,w,A,h2,h3⟩
   exact⟨g,w,A,h2,h3.Am (lQ hz)⟩
  ·exact λ_ _ _ _ _ _ _ h=>h
  ·exact⟨B,Q,ba,⟨by omega,bh _⟩,b7⟩
  ·rintro l w1 am q Hc o ea _ c1 ⟨g,w,hP,cd,hS⟩ ak hl
   rw[Ls]
   refine tq (cw cR cO cE au t) ?_;intro U Y O C
   simp only[cF]
   refine⟨rfl,λb o _ h=>h,λw2 y eb _=>?_⟩
   have br:q∈f p:=c1.subset (by simp)
   have dt:=ap p q br
   have c4:BX q:=by unfold bN at dt;unfold BX;omega
   have a6:=VV (B:=g) (λq hq=>by have:=a7 g hP.b q hq;unfold bN at this;unfold BX;omega) c4
   have ce:=a1 g hP.b
   have cv:=hS.Am (kA (x:=.obj y) hl)
   clear hS
   obtain⟨g1,g2,x,ob,g3,g4,g5⟩:=cv
   simp only[au,eL,fC,iN,cO,fS]
   by_cases J:q∈nO g
   ·obtain⟨p',dn⟩:=qZ.1 J
    have ae:=VU hP.b.nd dn
    refine tq (ej f5 cR cO cE au g2 ae) ?_;intro U Y O C
    refine⟨a6,?_⟩
    refine Y _ ?_
    refine tz ?_
    exact⟨rfl,λb o _ h=>h,g,w,hP.xz J,cd,g1,g2,x,ob,g3,g4,g5⟩
   ·have ae:=RE J
    have c2:=RF (p:=p) J
    refine tq (ej f5 cR cO cE au g2 ae) ?_;intro U Y O C
    refine⟨a6,?_⟩
    refine Y _ ?_
    have b0:ob≠some j:=λe=>by
     rcases g4 with⟨h,_⟩|⟨c,o,k,P,A,_,_,h4,_⟩
     ·rw[h] at e;cases e
     ·rw[A] at e;injection e with e;rw[e,g2] at h4;cases h4
    have ck:∀b o,(Hc.aU l (.obj y)) b=some (.obj o)->ob≠some b:=λb o hb e=>by
     rcases g4 with⟨h,_⟩|⟨c,o,k,P,A,_,_,h4,_⟩
     ·rw[h] at e;cases e
     ·rw[A] at e;injection e with e;rw[e,hb] at h4;cases h4
    have r6:((Hc.aU l (.obj y)).aU j (.map (I7 (g++[(q,p)])))) v=some (.row 37 0 1 [[x]]):=(aJ a4).trans g3
    have r7:=aQ (x:=.map (I7 (g++[(q,p)]))) g1 (jL ab)
    have r8:=g4.cM (H':=(Hc.aU l (.obj y)).aU j (.map (I7 (g++[(q,p)])))) λc hc=>aJ λe=>b0 (by rw[hc,e])
    have ec:=hP.ql
    obtain⟨HB,a2⟩:=oX ((Hc.aU l (.obj y)).aU j (.map (I7 (g++[(q,p)]))))
    rw[<-a2] at r6 r7 r8
    refine tq (bG f5 N f7 cR cO cE au (cw g2 c2 a6 @a2.symm r6)) ?_;intro U Y O C
    refine Br (e:=3) fk rfl fk rfl yv rfl (by decide) r7 r8 (new:=[iD q]) (by exact⟨rfl,rfl⟩) (by rw[aS];show(_+1) * 8<=_;omega) λd H6 e4 bo c0 al=>?_
    have q3:=al _ _ r6 g5
    have e5:=q3.1
    have q4:=(al j _ (by rw[a2,aK]) b0).1
    have dl:∃c o n,d=.os c o 1 0 n:=by
     rcases bo with⟨_,_,h⟩|⟨c,o,_,h,_⟩
     ·simp at h
     ·exact⟨c,o,_,h⟩
    obtain⟨c',o',n',rfl⟩:=dl
    have e:(w++[q]).map iD=w.map iD++[iD q]:=by simp
    refine eV (av N e5) ?_;refine nx ?_
    refine⟨rfl,λb o _ hb=>?_,g++[(q,p)],w++[q],hP.new J br,by rw[aV,aV];simp only[eE];omega,aQ c0 (jL a5),(aJ a4.symm).trans q4,_,e4,aK _ _ _,?_,q3.2⟩
    ·have nb:b≠j:=λe=>by rw[e] at hb;have G:(Hc.aU l (.obj y)) j=_:=hb;rw[g2] at G;cases G
     have n6:b≠v:=λe=>by rw[e] at hb;have G:(Hc.aU l (.obj y)) v=_:=hb;rw[g3] at G;cases G
     show(H6.aU v _) b=_
     rw[aJ n6]
     exact(al b _ (by rw[a2,aJ nb];exact hb) (ck b o hb)).1
    ·rw[e]
     exact Gk.of (bo.cM λc h=>aJ λe=>q3.2 (by rw[h,e]))
  ·rintro ys Hc M ac ⟨g,w,hP,cd,hS⟩ ak hD bb
   rw[mK]
   simp only[cp,cF]
   have ac:ys=f p:=ac
   subst ac
   have ar:=ci Hc (λb o h=>ak b o trivial h) hS.le
   have ce:=a1 g hP.b
   refine⟨_,?_,⟨⟨M::Ds,by rw[cE,t] <;> rfl,u.more (λb o h=>ak b o trivial h) (gA aa.le bb) bb hD⟩,f0,f1,f5,N⟩,g,w,rfl,hP.fin,ar,hS.mb,?_⟩
   ·show _<_
    rw[bx];omega
   ·obtain⟨x,ob,A,h2,h3⟩:=hS.q
    exact⟨x,ob,A,WV h2 ar,h3⟩
  ·exact λ_ _ _ _ _ _ h=>h.elim
end Go.Proofs.YtffgfafbffdgaaaGreatDoor
