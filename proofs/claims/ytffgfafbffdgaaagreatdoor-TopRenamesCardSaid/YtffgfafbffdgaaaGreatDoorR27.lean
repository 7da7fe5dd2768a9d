/- Lemmas and contracts of functions, several texts in one. -/
import Derived.Test.YtffgfafbffdgaaaGreatDoorR26
set_option maxRecDepth 100000
set_option maxHeartbeats 4000000
set_option linter.all false
namespace Go.Proofs.YtffgfafbffdgaaaGreatDoor
open Go.RowKit
variable {b:bn}{p x:Int}{k c4 bm c5:Nat}{E W V:List (Int×Int)}{y:Int×Int}{H:aA}
open Classical in
noncomputable def Ef (b:bn) (p:Int):List Int:=if h:∃y:im×Nat,BW b p y.1 y.2 then Er h.choose.1 h.choose.2 else []
open Classical in
noncomputable def yU (b:bn) (p:Int):Option Int:=if h:∃y:im×Nat,BW b p y.1 y.2 then CI h.choose.1 h.choose.2 else none
theorem Q1 {x:im}(h:BW b p x k):Ef b p=Er x k:=by
 have a:∃y:im×Nat,BW b p y.1 y.2:=⟨(x,k),h⟩;unfold Ef;rw[kL a,(a.choose_spec.uniq h).1,(a.choose_spec.uniq h).2]
theorem HH {x:im}(h:BW b p x k):yU b p=CI x k:=by
 have a:∃y:im×Nat,BW b p y.1 y.2:=⟨(x,k),h⟩;unfold yU;rw[kL a,(a.choose_spec.uniq h).1,(a.choose_spec.uniq h).2]
theorem BW.lt {x:im}(h:BW b p x k):0<=p/\p<bu (fD b):=by obtain⟨i,c,a,_⟩:=h;exact a.lt
theorem xY (h:x∈Ef b p):∃y k,BW b p y k/\x∈Er y k:=by
 unfold Ef at h;split at h
 ·rename_i a;exact⟨_,_,a.choose_spec,h⟩
 ·cases h
theorem Wt (h:x∈Ef b p):zU b p x:=by
 obtain⟨y,k,a,c⟩:=xY h;exact .use a c
theorem Sp {q:Int}(h:yU b p≠some x)(hf:I5 (fD b) p q)(hl:zU b q x):zU b p x:=by
 obtain⟨y,k,a⟩:=DD hf.lt.1.1 hf.lt.1.2;rw[HH a] at h;exact .step a h hf hl
theorem Hj {P:Int->Int->Prop}(h1:∀p x,x∈Ef b p->P p x)(h2:∀p q x,yU b p≠some x->I5 (fD b) p q->P q x->P p x)(h:zU b p x):P p x:=by
 induction h with
 |use a f=>exact h1 _ _ (by rw[Q1 a];exact f)
 |step a c e _ g=>exact h2 _ _ _ (by rw[HH a];exact c) e g
noncomputable def sV (b:bn):List Int:=(my (bu (fD b))).flatMap (Ef b)
theorem UT (h:x∈Ef b p):x∈sV b:=by
 obtain⟨y,k,a,_⟩:=xY h;exact la.2 ⟨p,mU.2 a.lt,h⟩
theorem Dz (h:zU b p x):(0<=p/\p<bu (fD b))/\x∈sV b:=by
 refine Hj (P:=λp x=>(0<=p/\p<bu (fD b))/\x∈sV b) (λp x h=>?_) (λp q x _ c h=>⟨c.lt.1,h.2⟩) h;obtain⟨y,k,a,_⟩:=xY h;exact⟨a.lt,UT h⟩
noncomputable def Bq (b:bn):List (Int×Int):=(my (bu (fD b))).flatMap λp=>(sV b).map λx=>(p,x)
theorem Lj (h:zU b p x):(p,x)∈Bq b:=
 la.2 ⟨p,mU.2 (Dz h).1,cD.2 ⟨x,(Dz h).2,rfl⟩⟩
theorem oP {c g:Type}{f:c->List g}{n:Nat}:∀{l:List c},(∀x∈l,(f x).length<=n)->(l.flatMap f).length<=l.length * n
 |[],_=>by simp
 |a::l,h=>by
  rw[lz,aV,bx,kH];have:=oP (l:=l) λx e=>h x (dH _ e);have:=h a (by simp);omega
theorem K2 (b:bn):(Bq b).length<=bu (fD b) * (sV b).length:=by
 have:=oP (f:=λp=>(sV b).map λx=>(p,x)) (n:=(sV b).length) (l:=my (bu (fD b))) λx _=>by rw[aS];exact bh _
 rwa[iw] at this
theorem FL (G:Gr):(oh G).length<=bu G * bu G:=by
 have:=oP (f:=λp=>(Gf G p).map λq=>(p,q)) (n:=bu G) (l:=my (bu G)) λx _=>by rw[aS];exact EF G x
 rwa[iw] at this
theorem C7 (l:List (Int×Int))(x:Int):(cT l x).length<=l.length:=by unfold cT;rw[aS];exact kU _ _
theorem FQ {c e:Type}{f:c->List e}{a:c}:∀{l:List c},a∈l->(f a).length<=(l.flatMap f).length
 |x::l,h=>by
  rw[lz,aV];rcases bV.1 h with rfl|h
  ·omega
  ·have:=FQ (f:=f) h;omega
theorem UR (b:bn)(p:Int):(Ef b p).length<=(sV b).length:=by
 cases h:Ef b p with
 |nil=>exact jY _
 |cons x l=>
  rw[<-h]
  obtain⟨y,k,a,_⟩:=xY (b:=b) (p:=p) (x:=x) (by rw[h];simp)
  exact FQ (mU.2 a.lt)
def MQ (E V:List (Int×Int)):List (Int×Int)->Nat
 |[]=>0
 |y::l=>(if y∈V then 0 else (cT E y.1).length+1)+MQ E V l
theorem KH (E V:List (Int×Int))(y:Int×Int):∀l,MQ E (V++[y]) l<=MQ E V l
 |[]=>bh _
 |z::l=>by
  have:=KH E V y l;unfold MQ;by_cases h:z∈V
  ·rw[aD h,aD (o8 _ h)];omega
  ·rw[aC h];split <;> omega
theorem Qe {E V:List (Int×Int)}{y:Int×Int}(hy:y∉V):∀{l},y∈l->MQ E (V++[y]) l+((cT E y.1).length+1)<=MQ E V l
 |z::l,h=>by
  have h1:=KH E V y l;unfold MQ;by_cases e:z=y
  ·subst e
   rw[aC hy,aD (by simp)];omega
  ·have a:=Qe (E:=E) hy (l:=l) (by rcases bV.1 h with h|h;exact absurd h.symm e;exact h)
   by_cases h:z∈V
   ·rw[aD h,aD (o8 _ h)];omega
   ·rw[aC h,aC (by simp [h,e])];omega
theorem VH (E V:List (Int×Int)):∀l,MQ E V l<=l.length * (E.length+1)
 |[]=>jY _
 |y::l=>by
  have:=VH E V l;have:=C7 E y.1;unfold MQ;rw[bx,kH];split <;> omega
noncomputable def Aj (b:bn) (E:List (Int×Int)) (p x:Int) (j:Nat):List (Int×Int):=(((cT E p).take j).filter λq=>decide (yU b q≠some x)).map λq=>(q,x)
theorem TS (b:bn)(E:List (Int×Int))(p x:Int)(j:Nat):(Aj b E p x j).length<=(cT E p).length:=by
 unfold Aj;rw[aS];have:=kU (λq=>decide (yU b q≠some x)) ((cT E p).take j);rw[bX] at this;omega
theorem P2 (b:bn)(E:List (Int×Int))(p x:Int)(j:Nat):(Aj b E p x j).length<=j:=by
 unfold Aj;rw[aS];have:=kU (λq=>decide (yU b q≠some x)) ((cT E p).take j);rw[bX] at this;omega
theorem P3 {j:Nat}(h:j<(cT E p).length):Aj b E p x (j+1)=Aj b E p x j++(if yU b (cT E p)[j]=some x then [] else [((cT E p)[j],x)]):=by
 unfold Aj;rw[bw h,ly,bI];congr 1;by_cases e:yU b (cT E p)[j]=some x
 ·rw[aD e,tH (by simpa using e)];rfl
 ·rw[aC e,tG (by simpa using e)];rfl
theorem J9:y∈Aj b E p x (cT E p).length↔y.2=x/\yU b y.1≠some x/\(y.1,p)∈E:=by
 unfold Aj;rw[dI,cD];constructor
 ·rintro⟨q,a,rfl⟩
  rw[fN,dF,qC] at a;exact⟨rfl,a.2,a.1⟩
 ·rintro⟨c,e,f⟩
  exact⟨y.1,by rw[fN,dF,qC];exact⟨f,e⟩,by rw[<-c]⟩
structure KU (b:bn) (V W:List (Int×Int)):Prop where
 nd:V.Nodup
 sv:∀y∈V,zU b y.1 y.2
 sw:∀y∈W,zU b y.1 y.2
 us:∀p x,x∈Ef b p->(p,x)∈V\/(p,x)∈W
 st:∀y∈V,∀p,yU b p≠some y.2->I5 (fD b) p y.1->(p,y.2)∈V\/(p,y.2)∈W
theorem KU.init (h:∀p x,(p,x)∈W↔x∈Ef b p):KU b [] W:=
 ⟨List.nodup_nil,by simp,λy c=>Wt ((h _ _).1 c),λp x a=>.inr ((h _ _).2 a),by simp⟩
theorem KU.skip (h:KU b V (W++[y]))(hy:y∈V):KU b V W:=by
 have a:∀z,z∈V\/z∈W++[y]->z∈V\/z∈W:=λz hz=>by
  rcases hz with hz|hz
  ·exact .inl hz
  ·rcases bB.1 hz with hz|hz
   ·exact .inr hz
   ·rw[bM] at hz;rw[hz];exact .inl hy
 exact⟨h.nd,h.sv,λz hz=>h.sw z (o8 _ hz),λp x f=>a _ (h.us p x f),λz hz p c e=>a _ (h.st z hz p c e)⟩
theorem KU.add (h:KU b V (W++[y]))(c:y∉V):KU b (V++[y]) (W++Aj b (oh (fD b)) y.1 y.2 (cT (oh (fD b)) y.1).length):=by
 have l:=h.sw y (by simp);have a:∀z,z∈V\/z∈W++[y]->z∈V++[y]\/z∈W++Aj b (oh (fD b)) y.1 y.2 (cT (oh (fD b)) y.1).length:=λz hz=>by
  rcases hz with hz|hz
  ·exact .inl (o8 _ hz)
  ·rcases bB.1 hz with hz|hz
   ·exact .inr (o8 _ hz)
   ·exact .inl (pL _ hz)
 refine⟨mW.2 ⟨h.nd,by simp,λz hz w j e=>by rw[bM] at j;rw[e,j] at hz;exact c hz⟩,λz hz=>?_,λz hz=>?_,λp x o=>a _ (h.us p x o),λz hz p g i=>?_⟩
 ·rcases bB.1 hz with hz|hz
  ·exact h.sv z hz
  ·rw[bM] at hz;rw[hz];exact l
 ·rcases bB.1 hz with hz|hz
  ·exact h.sw z (o8 _ hz)
  ·obtain⟨m,n,f⟩:=J9.1 hz
   rw[sM] at f;rw[m];exact Sp n f l
 ·rcases bB.1 hz with hz|hz
  ·exact a _ (h.st z hz p g i)
  ·rw[bM] at hz
   subst hz;exact .inr (pL _ (J9.2 ⟨rfl,g,sM.2 i⟩))
theorem KU.fin (h:KU b V [])(y:Int×Int):y∈V↔zU b y.1 y.2:=by
 constructor
 ·exact h.sv y
 ·intro e
  refine Hj (P:=λp x=>(p,x)∈V) (λp x g=>?_) (λp q x a c f=>?_) e
  ·rcases h.us p x g with h|h
   ·exact h
   ·cases h
  ·rcases h.st (q,x) f p a c with h|h
   ·exact h
   ·cases h
def Lp (V:List (Int×Int)) (p:Int):List Int:=(V.filter λy=>decide (y.1=p)).map (·.2)
theorem xJ:x∈Lp V p↔(p,x)∈V:=by
 unfold Lp;rw[cD];constructor
 ·rintro⟨y,a,rfl⟩
  rw[fN,dF] at a;rw[<-a.2];exact a.1
 ·intro h
  exact⟨(p,x),by rw[fN];exact⟨h,by simp⟩,rfl⟩
theorem Qt (V:List (Int×Int))(y:Int×Int):Lp (V++[y]) y.1=Lp V y.1++[y.2]:=by unfold Lp;rw[ly,bI];simp
theorem Xz (h:p≠y.1):Lp (V++[y]) p=Lp V p:=by
 unfold Lp;rw[ly,bI];have:¬y.1=p:=λe=>h e.symm;simp [this]
theorem VO (V:List (Int×Int))(p:Int):(Lp V p).length<=V.length:=by unfold Lp;rw[aS];exact kU _ _
theorem M6 (h:V.Nodup)(p:Int):(Lp V p).Nodup:=by
 unfold Lp;rw[yy] at *;rw[rE];refine List.Pairwise.imp_of_mem (λ{a b} f g c e=>c ?_) (h.filter _);rw[fN,dF] at f g;exact mc (f.2.trans g.2.symm) e
open Tryz
theorem Vt (els:List (List D))(H:aA)(hl:els.length<=1000000):aN prog 58 [.seq 2 els] H λd H'=>d=.seq 2 els/\H=H':=by refine aq (K:=λd=>d=.seq 2 els) ?_;refine dO func58 ntmps58 results58 λs r Q h=>?_;refine t0 ?_;intro U Y O C;intro b j;refine Y _ ?_;cases b with|true=>(refine u0 h ?_;have l:els=[]:=eC λe=>Bool.noConfusion (j λi=>e (cy i));exact⟨H,aF _,aF _,_,iq,by rw[l]⟩)|false=>(refine t0 ?_;intro U Y O C;intro g c;refine ax (e:=117) QO rfl QO rfl QM rfl (by decide) (aQ (aF _) c) (.inr ⟨g,0,rfl,rfl,c,aK _ _ _⟩:Gl H 117 2 [] (.os g 0 2 0 0) (H.aU g (.row 117 0 2 [])) (some g)) (new:=els) (by exact⟨rfl,rfl⟩) (by simp only[dX];omega) λd o n f a m=>?_;refine u0 h ?_;rw[cz] at f;exact⟨_,aF _,a,_,da a f,rfl⟩)
theorem Fg:∀(l:List qO) (p:Int) (s:qO),CW p (l++[s])=CW p l++J0 (p+l.length) s
 |[],p,s=>by show J0 p s++[]=[]++J0 (p+0) s;rw[bz,cz,Int.add_zero]
 |x::l,p,s=>by
  show J0 p x++CW (p+1) (l++[s])=J0 p x++CW (p+1) l++_;rw[Fg l,bE,bx];congr 3;omega
theorem Ff:∀(l:List im) (p:Int) (x:im),Fe p (l++[x])=Fe p l++CW (p+bu (l.map λx=>(x.st.length,x.tm.tg))) x.st
 |[],p,x=>by show CW p x.st++[]=[]++CW (p+0) x.st;rw[bz,cz,Int.add_zero]
 |y::l,p,x=>by
  show CW p y.st++Fe (p+y.st.length+1) (l++[x])=CW p y.st++Fe (p+y.st.length+1) l++_;rw[Ff l,bE];congr 3;simp only[cC,bu];omega
theorem Dx:∀(l:List qO) (p:Int),(CW p l).length<=l.length
 |[],_=>bh _
 |s::l,p=>by
  have:=Dx l (p+1);have a:(J0 p s).length<=1:=by unfold J0;split <;> simp
  show(J0 p s++CW (p+1) l).length<=_;rw[aV,bx];omega
theorem Dv:∀(l:List im) (p:Int),(Fe p l).length<=bu (l.map λx=>(x.st.length,x.tm.tg))
 |[],_=>bh _
 |x::l,p=>by
  have:=Dv l (p+x.st.length+1);have a:=Dx x.st p;show(CW p x.st++Fe _ l).length<=_;simp only[aV,cC,bu];omega
theorem Of (b:bn):(pg b).length<=bu (fD b):=Dv _ _
theorem Sf {i:Nat}(h:i<b.bl.length):Fe 0 (b.bl.take (i+1))=Fe 0 (b.bl.take i)++CW (dG (fD b) i) b.bl[i].st:=by
 rw[bw h,Ff,Int.zero_add];congr 3;unfold dG fD;rw[iK]
def Ys (b:bn):Prop:=∀x∈b.bl,∀s∈x.st,s.rv.pl.pr.length<=1000000
theorem Sg (b:bn)(H:aA)(hc:bu (fD b)<=1000000)(ho:Ys b):aN prog 94 [.agg (cu b)] H λd H'=>d=.seq 5 ((pg b).map pF)/\H=H':=by
 refine aq (K:=λd=>d=.seq 5 ((pg b).map pF)) ?_;have a7:=lm dM b.bl;have ae:=vc (fD b);rw[pB] at ae;unfold cu;refine dO func94 ntmps94 results94 λw0 g0 Q aB=>?_;refine t0 ?_;intro U Y O C;intro c1 ag;refine Y _ ?_;refine cm 1 ag ?_;refine tn a7 ?_;refine aO b.bl.length (λi s=>s.df=[]/\s.fr 4=i64 (dG (fD b) i)/\s.fr 11=.seq 7 (b.bl.map dM)/\s.fr 12=i64 b.bl.length/\s.fr 13=i64 i/\H.le s.H/\∃J,Gl H 161 5 ((Fe 0 (b.bl.take i)).map pF) (s.fr 3) s.H J) ⟨rfl,rfl,rfl,rfl,rfl,aF _,none,eB _ _ _ _⟩ ?_;rintro i s hi ⟨g,M,f,a,c,I,J,w⟩;have hx:=aX i;have ab:=aZ i;by_cases l:i<b.bl.length
 case neg=>
  have q1:=lF i b.bl.length;rw[bK (by omega)] at w;refine ur aB (bQ a c q1) g ?_;exact⟨_,aF _,I,_,da I w,rfl⟩
 have a3:(i:Int)<(b.bl.length:Int):=by omega
 have q1:((i:Int)<(b.bl.length:Int))=True:=aG a3;have w3:=wS i;have P:(b.bl.map dM)[i]?=some (dM b.bl[i]):=bZ l;have a6:dG (fD b) (i+1)=dG (fD b) i+b.bl[i].st.length+1:=by rw[oB (by rw[pB];exact l),sc l]
 have b3:=sH (G:=fD b) (i:=i+1);have N:=Sf l;have a9:=ho b.bl[i] (ao l);have S:=Dv (b.bl.take i) 0;have ar:bu ((b.bl.take i).map λx=>(x.st.length,x.tm.tg))=dG (fD b) i:=by unfold dG fD;rw[iK]
 rw[ar] at S;obtain⟨x,b0⟩:=oX b.bl[i];rw[<-b0] at P a6 N a9;have a8:=lm ji x.st;simp only[dM] at P;refine tq (bG f a c a7 q1 P hx (bQ ab l a3)) ?_;intro U Y O C;intro c6 ak;refine Y _ ?_;refine cm 6 ak ?_;refine tq a8 ?_;intro U Y O C;obtain⟨F,hF⟩:=oX (dG (fD b) i);rw[<-hF] at M a6 N S;obtain⟨L0,ad⟩:=oX (Fe 0 (b.bl.take i));rw[<-ad] at w N S;refine aO x.st.length (λj r=>r.df=[]/\r.fr 4=i64 (F+j:Nat)/\r.fr 11=.seq 7 (b.bl.map dM)/\r.fr 12=i64 b.bl.length/\r.fr 13=i64 i/\r.fr 18=.seq 11 (x.st.map ji)/\r.fr 19=i64 x.st.length/\r.fr 20=i64 j/\H.le r.H/\∃J,Gl H 161 5 ((L0++CW F (x.st.take j)).map pF) (r.fr 3) r.H J) ⟨g,M,f,a,c,rfl,rfl,rfl,I,J,by rw[gK];show Gl H _ 5 ((L0++[]).map pF) _ _ _;rw[bz];exact w⟩ ?_;clear g M f a c I w J;rintro j r hj ⟨g,M,f,a,c,L,t,v,I,J,w⟩;have b1:=aX j;have ac:=aZ j;by_cases m:j<x.st.length
 case neg=>
  have q2:=lF j x.st.length;have e:j=x.st.length:=by omega
  subst e;rw[dI,<-N] at w;have w4:IntKind.i64.wrap (((F+x.st.length:Nat):Int)+1)=((dG (fD b) (i+1):Nat):Int):=by rw[aP (by omega)];omega
  refine tn (ej M c t v q2 w3 w4) ?_;exact⟨l,g,rfl,f,a,rfl,I,J,w⟩
 have a4:(j:Int)<(x.st.length:Int):=by omega
 have q2:((j:Int)<(x.st.length:Int))=True:=aG a4;have w4:=wS j;have w5:IntKind.i64.wrap (((F+j:Nat):Int)+1)=((F+(j+1):Nat):Int):=by rw[aP (by omega)];omega
 have R:(x.st.map ji)[j]?=some (ji x.st[j]):=bZ m;have n:CW F (x.st.take (j+1))=CW F (x.st.take j)++J0 ((F+j:Nat):Int) x.st[j]:=by
  rw[bw m,Fg,bX,mZ (by omega)];congr 2
 have aw:=Dx (x.st.take j) F;rw[bX] at aw;have T:=a9 x.st[j] (ao m);obtain⟨u,hu⟩:=oX x.st[j];rw[<-hu] at R n T;obtain⟨uk,a2,⟨rk,a0,B,A,⟨z,o⟩,Z⟩,a1⟩:=u;simp only at T;have am:=λH1=>Vt (o.map pD) H1 (by rw[aS];exact T);simp only[ji] at R;refine tq (bG L t v a8 q2 R b1 (bQ ac m a4)) ?_;intro U Y O C;intro c8 al;refine Y _ ?_;refine cm 8 al ?_;by_cases hk:uk=0
 case neg=>
  have p0:(uk=0)=False:=aI hk;have e:J0 ((F+j:Nat):Int) ⟨uk,a2,⟨rk,a0,B,A,⟨z,o⟩,Z⟩,a1⟩=[]:=aC λh=>hk h.1;rw[e,bz] at n;refine tn (cw M v p0 w4 w5) ?_;exact⟨m,g,rfl,f,a,c,L,t,rfl,I,J,by rw[n];exact w⟩
 have p0:(uk=0)=True:=aG hk;by_cases hr:rk=1
 case neg=>
  have p1:(rk=1)=False:=aI hr;have e:J0 ((F+j:Nat):Int) ⟨uk,a2,⟨rk,a0,B,A,⟨z,o⟩,Z⟩,a1⟩=[]:=aC λh=>hr h.2;rw[e,bz] at n;refine tn (eP M v p0 p1 w4 w5) ?_;exact⟨m,g,rfl,f,a,c,L,t,rfl,I,J,by rw[n];exact w⟩
 have p1:(rk=1)=True:=aG hr;have e:J0 ((F+j:Nat):Int) ⟨uk,a2,⟨rk,a0,B,A,⟨z,o⟩,Z⟩,a1⟩=[⟨B,((F+j:Nat):Int),A,⟨z,o⟩⟩]:=aD ⟨hk,hr⟩;rw[e] at n;refine tq (av p0 p1) ?_;intro U Y O C;intro c9 a5;refine Y _ ?_;refine t0 ?_;intro U Y O C;refine(am _).qs M ?_;intro U Y O C;refine ax (e:=161) Xc rfl Xc rfl VE rfl (by decide) (aQ I (iY I a5)) (w.new a5) (new:=[pF ⟨B,((F+j:Nat):Int),A,⟨z,o⟩⟩]) (by exact⟨rfl,rfl⟩) (by rw[aS,aV];show(_+1) * _<=_;omega) λd2 H2 b2 ap aa b4=>?_;refine tq (cA M v w4 w5) ?_;intro U Y O C;refine⟨m,g,rfl,f,a,c,L,t,rfl,aa,b2,?_⟩;rw[n,<-bE,bI];exact ap
def xo (bm:Nat) (a df:D):List D:=[.val (.map (some bm)),a,df]
def uR (S:List Int) (x:Int):List Int:=if x∈S then S else S++[x]
def oJ (S:List Int) (l:List Int):List Int:=l.foldl uR S
theorem jA (S l m:List Int):oJ S (l++m)=oJ (oJ S l) m:=mX
theorem Fo {S:List Int}{y:Int}:y∈uR S x↔y∈S\/y=x:=by
 unfold uR;split
 ·rename_i h
  exact⟨.inl,λa=>a.elim id λe=>e▸h⟩
 ·rw[bB,bM]
theorem vd {l:List Int}:∀{S:List Int}{y:Int},y∈oJ S l↔y∈S\/y∈l:=by
 induction l with
 |nil=>intro S y;exact⟨.inl,λh=>h.elim id λh=>by cases h⟩
 |cons x l a=>
  intro S y
  show y∈oJ (uR S x) l↔_
  rw[a,Fo,bV,or_assoc]
theorem Gq (S:List Int)(x:Int):eJ (SM S) (.int .i64 x) (.val (.bool true))=SM (uR S x):=by
 unfold uR;split
 ·rename_i h
  induction S with
  |nil=>cases h
  |cons a S c=>
   rw[uv]
   simp only[eJ]
   by_cases e:a=x
   ·subst e;rw[aD rfl]
   ·rw[aC (by simpa using e),c (by rcases bV.1 h with h|h;exact absurd h.symm e;exact h)]
 ·rename_i h;exact Cv h
theorem KW {S:List Int}(h:∀x∈S,du x)(hx:du x):SP prog 3 (SM S) (.int .i64 x):=
 ⟨Go.Maps.int_keyed underlying3,kn underlying3 hx,λp a=>by
  unfold SM SV at a;rw[gL,cD] at a;obtain⟨y,c,rfl⟩:=a;exact kn underlying3 (h y c)⟩
theorem Og (l:List gq)(o:gq):tf (l++[o])=tf l++(if o.k=0\/o.k=1 then [o.pl.lo] else []):=by
 unfold tf EK;rw[ly,bI];congr 1;by_cases h:o.k=0\/o.k=1
 ·rw[aD h,tG (by simpa using h)];rfl
 ·rw[aC h,tH (by simpa using h)];rfl
theorem Iz (l:List gq)(w bm:Nat)(lo df:D)(S:List Int)(H:aA)(a1:w≠bm)(he:H w=some (.row 341 0 3 [xo bm lo df]))(hm:H bm=some (.map (SM S)))(hl:cH l.length)(hS:∀x∈S,du x)(G:∀x∈tf l,du x):
  aN prog 349 [.ep w 0 3 0 0,.seq 4 (l.map db)] H λd H'=>d=.eO []/\H'=H.aU bm (.map (SM (oJ S (tf l)))):=by
 have K:=lm db l;unfold cH at hl;refine dO func349 ntmps349 results349 λw0 g0 Q aB=>?_;refine tn K ?_;refine aO l.length (λi s=>s.df=[]/\s.fr 0=.ep w 0 3 0 0/\s.fr 6=.seq 4 (l.map db)/\s.fr 7=i64 l.length/\s.fr 8=i64 i/\s.H=H.aU bm (.map (SM (oJ S (tf (l.take i)))))) ⟨rfl,rfl,rfl,rfl,rfl,(lX hm).symm⟩ ?_;rintro i s hi ⟨f,z,M,A,B,g⟩;have N:=aX i;have a0:=aZ i;by_cases a:i<l.length
 case neg=>
  have q1:=lF i l.length;rw[bK (by omega)] at g;refine tq (bQ A B q1) ?_;intro U Y O C;exact aB _ _ (.inl rfl) f ⟨_,aF _,rfl,g⟩
 have n:(i:Int)<(l.length:Int):=by omega
 have q1:((i:Int)<(l.length:Int))=True:=aG n;have w3:=wS i;have m:(l.map db)[i]?=some (db l[i]):=bZ a;have c:tf (l.take (i+1))=tf (l.take i)++(if l[i].k=0\/l[i].k=1 then [l[i].pl.lo] else []):=by rw[bw a,Og]
 have v:∀j x,x∈tf (l.take j)->x∈tf l:=λj x h=>by
  have e:tf l=tf (l.take j)++tf (l.drop j):=by
   unfold tf EK;rw[<-bI,<-ly,ga]
  rw[e];exact o8 _ h
 obtain⟨u,hu⟩:=oX l[i];rw[<-hu] at m c;simp only[db] at m;refine tq (bG M A B K q1 m N (bQ a0 a n)) ?_;intro U Y O C;intro c5 a2;refine Y _ ?_;refine cm 5 a2 ?_;by_cases I:u.k=0\/u.k=1
 case neg=>
  have L:(u.k=0)=False:=aI λh=>I (.inl h);have p1:(u.k=1)=False:=aI λh=>I (.inr h);rw[aC I,bz] at c;refine tn (cA B L p1 w3) ?_;exact⟨a,f,z,M,A,rfl,by rw[c];exact g⟩
 rw[aD I] at c;obtain⟨T,hT⟩:=oX (oJ S (tf (l.take i)));have R:∀x∈T,du x:=λx N=>by
  rw[hT,vd] at N;exact N.elim (hS x) λh=>G x (v i x h)
 have Z:du u.pl.lo:=G _ (v (i+1) _ (by rw[c];simp));have J:=KW R Z;have P:oJ S (tf (l.take (i+1)))=uR T u.pl.lo:=by rw[c,jA,<-hT];rfl
 have r:=Gq T u.pl.lo;rw[<-hT] at g;have re:s.H w=some (.row 341 0 3 [xo bm lo df]):=by rw[g,aJ a1];exact he
 have rm:s.H bm=some (.map (SM T)):=by rw[g,aK]
 have o:s.H.aU bm (.map (SM (uR T u.pl.lo)))=H.aU bm (.map (SM (oJ S (tf (l.take (i+1)))))):=by rw[g,iv,P]
 unfold xo at re;have fb:((some (23:Tmp)==some 24||some (23:Tmp)==some 25||some (23:Tmp)==some 26)=true)=False:=aI (by decide);rcases I with h0|h1
 ·have L:(u.k=0)=True:=aG h0
  refine tq L ?_;intro U Y O C;refine wE (λt=>t==some 24||t==some 25||t==some 26) (λ_=>false) (λ_ _ _ _=>False) (λ_ _ _ _ _=>False) λU Y=>?_;have fs:=And.intro z (And.intro re (And.intro rm (And.intro fb r)));refine uj ?_;refine nx ?_;(try clear fs);refine⟨J,Y _ ?_⟩;refine tn (av B w3) ?_;exact⟨a,f,z,M,A,rfl,o⟩
 ·have L:=nF (u.k=0)
  have p1:(u.k=1)=True:=aG h1;refine tq (av L p1) ?_;intro U Y O C;refine wE (λt=>t==some 24||t==some 25||t==some 26) (λ_=>false) (λ_ _ _ _=>False) (λ_ _ _ _ _=>False) λU Y=>?_;have fs:=And.intro z (And.intro re (And.intro rm (And.intro fb r)));refine uj ?_;refine nx ?_;(try clear fs);refine⟨J,Y _ ?_⟩;refine tn (av B w3) ?_;exact⟨a,f,z,M,A,rfl,o⟩
def LH (a:D):Option Int->D
 |none=>a
 |some v=>i64 v
def LG (df:D):Option Int->D
 |none=>df
 |some _=>.val (.bool true)
theorem vQ (p:gR)(c bm:Nat)(v df:D)(S:List Int)(H:aA)(s:c≠bm)(i:H c=some (.row 341 0 3 [xo bm v df]))(hm:H bm=some (.map (SM S)))(hp:cH p.pr.length)(J:∀x∈S,du x)(r:du p.lo):
  aN prog 350 [.ep c 0 3 0 0,.agg (ee p)] H λd H'=>d=.eO []/\H'=(H.aU c (.row 341 0 3 [xo bm (LH v (MZ p)) (LG df (MZ p))])).aU bm (.map (SM (oJ S (I2 p)))):=by
 have j:=lm pD p.pr;have u:=KW J r;have m:=Gq S p.lo;have ev:∀q,MZ p=q->MZ p=q:=λ_ h=>h;unfold cH at hp;have K:=i;unfold xo at i;by_cases f:p.pr=[]
 ·have n:MZ p=some p.lo:=aD f
  have o:I2 p=[]:=aD f;rw[n,o];have L:p.pr.length=0:=by rw[f];rfl
  have A:=nF ((0:Int)<(p.pr.length:Int));have a:∀R:cY,(H.aU c R).aU bm (.map (SM S))=H.aU c R:=λR=>lX ((aJ s.symm).trans hm);have g:=a (.row 341 0 3 [xo bm (i64 p.lo) (.val (.bool true))]);unfold xo at g;obtain⟨w,z⟩:=p;simp only[ee] at *;refine dO func350 ntmps350 results350 λM I Q l=>?_;refine t0 ?_;intro U Y O C;intro B e;refine Y _ ?_;refine cm 3 e ?_;refine tq (cA j A i iv) ?_;intro U Y O C;exact l _ _ (.inl rfl) rfl ⟨_,aF _,rfl,g.symm⟩
 ·have n:MZ p=none:=aC f
  have o:I2 p=[p.lo]:=aC f;rw[n,o];have L:p.pr.length≠0:=λh=>f (cy h);have A:=nT ((0:Int)<(p.pr.length:Int));have a:(H.aU c (.row 341 0 3 [[.val (.map (some bm)),v,df]])).aU bm (.map (SM (uR S p.lo)))=H.aU bm (.map (SM (uR S p.lo))):=by rw[lX i]
  have G:((some (11:Tmp)==some 12||some (11:Tmp)==some 13)=true)=False:=aI (by decide);obtain⟨w,z⟩:=p;simp only[ee] at *;refine dO func350 ntmps350 results350 λM I Q l=>?_;refine t0 ?_;intro U Y O C;intro B e;refine Y _ ?_;refine cm 3 e ?_;refine tq (av j A) ?_;intro U Y O C;refine wE (λt=>t==some 12||t==some 13) (λ_=>false) (λ_ _ _ _=>False) (λ_ _ _ _ _=>False) λU Y=>?_;have fs:=And.intro i (And.intro hm (And.intro G m));refine uj ?_;refine nx ?_;(try clear fs);refine⟨u,Y _ ?_⟩;refine t0 ?_;intro U Y O C;exact l _ _ (.inl rfl) rfl ⟨_,aF _,rfl,a.symm⟩
def EH (H:aA) (c4 bm c5:Nat) (Z:cY) (S:List Int) (a df:D):aA:=((H.aU c4 Z).aU bm (.map (SM S))).aU c5 (.row 341 0 3 [xo bm a df])
theorem VK (H:aA)(c4 bm c5:Nat)(Z:cY)(S:List Int)(a df:D):(EH H c4 bm c5 Z S a df) c5=some (.row 341 0 3 [xo bm a df]):=aK _ _ _
theorem VL (a:c5≠bm)(Z:cY)(S:List Int)(c df:D):(EH H c4 bm c5 Z S c df) bm=some (.map (SM S)):=(aJ a.symm).trans (aK _ _ _)
theorem EH4 (a:c5≠c4)(c:bm≠c4)(Z:cY)(S:List Int)(e df:D):(EH H c4 bm c5 Z S e df) c4=some Z:=(aJ a.symm).trans ((aJ c.symm).trans (aK _ _ _))
theorem we (a:c5≠bm)(Z:cY)(S:List Int)(e df:D)(c:List Int):(EH H c4 bm c5 Z S e df).aU bm (.map (SM c))=EH H c4 bm c5 Z c e df:=by unfold EH;rw[aA.BI a,iv]
theorem KJ (H:aA)(c4 bm c5:Nat)(Z:cY)(S:List Int)(e df c a:D):(EH H c4 bm c5 Z S e df).aU c5 (.row 341 0 3 [xo bm c a])=EH H c4 bm c5 Z S c a:=iv _ _ _ _
theorem aCZ (a:c5≠c4)(c:bm≠c4)(Z:cY)(S:List Int)(f df:D)(e:cY):(EH H c4 bm c5 Z S f df).aU c4 e=EH H c4 bm c5 e S f df:=by unfold EH;rw[aA.BI a,aA.BI c,iv]
theorem aCY (c:c5≠bm)(h4:H c4=none)(h5:H c5=none)(f:bm≠c4)(Z:cY)(S:List Int)(g df:D):(H.aU bm (.map (SM S))).le (EH H c4 bm c5 Z S g df):=λb x a=>by
 unfold EH;by_cases e:b=bm
 ·rw[e,aK] at a
  rw[e,aJ c.symm,aK];exact a
 ·rw[aJ e] at a
  rw[aJ (λe=>by rw[e,h5] at a;cases a),aJ e,aJ (λe=>by rw[e,h4] at a;cases a)];exact a
structure VM (x:im) (k:Nat):Prop where
 st:cH x.st.length
 kl:k<=x.st.length
 us:∀y∈Er x k,du y
 df:∀y,CI x k=some y->du y
 ar:cH (DC x k).length
 wp:cH (oq x k).1.pr.length
 bo:∀s,x.st[k]?=some s->s.k=0->du s.rv.pl.lo
theorem Rt (x:im)(k:Nat)(H:aA)(ok:VM x k):aN prog 308 [.agg (dM x),i64 k] H λd H'=>∃bm,H bm=none/\d=.agg (xo bm (LH (i64 0) (CI x k)) (LG (.val (.bool false)) (CI x k)))/\H'=H.aU bm (.map (SM (oJ [] (Er x k)))):=by
 have a9:=lm ji x.st;obtain⟨hs,hk,B,R,z,J,a3⟩:=ok;unfold cH at hs;obtain⟨US,hU⟩:=oX (Er x k);obtain⟨DV,hD⟩:=oX (CI x k);rw[<-hU] at B ⊢;rw[<-hD] at R ⊢;obtain⟨i,e⟩:=x;simp only at hs hk a9;simp only[dM];refine dO func308 ntmps308 results308 λw0 g0 Q aB=>?_;refine t0 ?_;intro U Y O C;intro c2 ag c4 a6;refine Y _ ?_;refine Yc 2 ag a6 ?_;have am:=(bF.1 a6).2;clear ag a6;refine t0 ?_;intro U Y O C;intro bm a2 c5 P;refine Y _ ?_;have a1:bm≠c4:=(bF.1 a2).1;have m:=(bF.1 a2).2;have a:c5≠bm:=(bF.1 P).1;have ae:c5≠c4:=(bF.1 (bF.1 P).2).1;have al:=(bF.1 (bF.1 P).2).2;clear a2 P;obtain⟨Z,hZ⟩:∃Z:cY,Z=.row 341 0 3 [[.val (.map none),i64 0,.val (.bool false)]]:=⟨_,rfl⟩;refine iz (λs=>s.df=[]/\s.fr 1=i64 k/\s.fr 2=.rp [.seq 11 (i.map ji),i64 e.k,.seq 1 (e.tg.map iD),.seq 4 (e.ar.map db),i64 e.pl.lo,.seq 2 (e.pl.pr.map pD),bC e.nm]/\s.fr 4=.ep c4 0 3 0 0/\s.fr 5=.ep c5 0 3 0 0/\s.H=EH H c4 bm c5 Z [] (i64 0) (.val (.bool false))) ⟨rfl,rfl,rfl,rfl,rfl,by rw[hZ] <;> rfl⟩ ?_;rintro s ⟨n,g1,g2,v,r,gH⟩;have b2:∀(s:St) (X:aA),s.H=X->s=s.cJ X:=λs X h=>by rw[<-h];rfl
 rw[b2 s _ gH];have L:∀S g f,(EH H c4 bm c5 Z S g f) c5=some (.row 341 0 3 [[.val (.map (some bm)),g,f]]):=λS g f=>VK H c4 bm c5 Z S g f;have ab:∀S g f,(EH H c4 bm c5 Z S g f) bm=some (.map (SM S)):=λS g f=>VL a Z S g f;have ad:∀S g f S',(EH H c4 bm c5 Z S g f).aU bm (.map (SM S'))=EH H c4 bm c5 Z S' g f:=λS g f S'=>we a Z S g f S';have a4:∀S g f,(EH H c4 bm c5 Z S g f) c4=some (.row 341 0 3 [[.val (.map none),i64 0,.val (.bool false)]]):=λS g f=>(EH4 ae a1 Z S g f).trans (by rw[hZ]);have l:∀S g f Z',(H.aU bm (.map (SM S))).le ((EH H c4 bm c5 Z S g f).aU c4 Z'):=λS g f Z'=>by rw[aCZ ae a1];exact aCY a am al a1 Z' S g f
 have aa:=Gq;by_cases t:k<i.length
 ·have ac:(k:Int)<(i.length:Int):=by omega
  have q1:((k:Int)<(i.length:Int))=True:=aG ac;have hx:=aX k;have aw:=aZ k;have a7:(i.map ji)[k]?=some (ji i[k]):=bZ t;have e1:US=usS i[k]:=by rw[hU];unfold Er;simp only;rw[az t]
  have e2:DV=dfS i[k]:=by rw[hD];unfold CI;simp only;rw[az t]
  have e3:DC ⟨i,e⟩ k=i[k].rv.ar:=by unfold DC;simp only;rw[az t]
  have e4:i[k].k=0->(oq ⟨i,e⟩ k).1=i[k].pl:=λh=>by unfold oq;simp only;rw[az t];simp only;rw[aD h]
  have e5:i[k].k=0->du i[k].rv.pl.lo:=λh=>a3 i[k] (az t) h;rw[e3] at z;clear e3 a3 hU hD;obtain⟨u,hu⟩:=oX i[k];rw[<-hu] at a7 z e1 e2 e4 e5;clear hu;obtain⟨uk,G,⟨rk,b4,b6,b3,⟨ak,b5⟩,K⟩,a0⟩:=u;simp only[ji] at a7;simp only at z e4 e5;refine tq (bG g1 g2 a9 q1 a7 hx aw (av t ac)) ?_;intro U Y O C;intro c6 b1;refine Y _ ?_;refine cm 6 b1 ?_;by_cases N:uk=0
  ·have p0:(uk=0)=True:=aG N
   have e4:=e4 N;have e5:=e5 N;have j:US=tf K++((if rk=1 then [ak] else [])++I2 G):=e1.trans (aD N);have o:DV=MZ G:=e2.trans (aD N);have A:du G.lo:=by
    by_cases hz:G.pr=[]
    ·exact R _ (by rw[o];exact aD hz)
    ·exact B _ (by rw[j];refine pL _ (pL _ ?_);unfold I2;rw[aC hz];simp)
   have I:∀y∈tf K,du y:=λy T=>B y (by rw[j];exact o8 _ T);have w:∀y∈oJ [] (tf K),du y:=λy T=>(vd.1 T).elim (λh=>by cases h) (I y);rw[e4] at J;refine tq (av r p0) ?_;intro U Y O C;refine((Iz K c5 bm (i64 0) (.val (.bool false)) [] _ a (VK H c4 bm c5 Z _ _ _) (VL a Z _ _ _) z (λx hx=>by cases hx) I)).mono ?_;rintro d H3 ⟨rfl,c⟩;(first|rw[KJ,we a] at c|rw[we a] at c);subst c;by_cases hb:rk=1
   ·have p1:(rk=1)=True:=aG hb
    rw[aD hb] at j;have a8:=KW w e5;have b0:∀y∈uR (oJ [] (tf K)) ak,du y:=λy T=>(Fo.1 T).elim (w y) λh=>h▸e5;refine tq (ej r p1 L ab ad aa @xo.eq_1) ?_;intro U Y O C;refine⟨a8,?_⟩;refine nx ?_;refine tq r ?_;intro U Y O C;refine((vQ G c5 bm _ _ _ _ a (VK H c4 bm c5 Z _ _ _) (VL a Z _ _ _) J b0 A)).mono ?_;rintro d H3 ⟨rfl,c⟩;(first|rw[KJ,we a] at c|rw[we a] at c);subst c;refine ur aB (cA v r L a4) (av n v) ?_;exact⟨_,l _ _ _ _,_,m,by rw[o] <;> rfl,by rw[j] <;> first|(simp only[jA];done)|(simp only[jA];rfl)|rfl⟩
   ·have p1:(rk=1)=False:=aI hb
    rw[aC hb,cz] at j;refine tq (av r p1) ?_;intro U Y O C;refine((vQ G c5 bm _ _ _ _ a (VK H c4 bm c5 Z _ _ _) (VL a Z _ _ _) J w A)).mono ?_;rintro d H3 ⟨rfl,c⟩;(first|rw[KJ,we a] at c|rw[we a] at c);subst c;refine ur aB (cA v r L a4) (av n v) ?_;exact⟨_,l _ _ _ _,_,m,by rw[o] <;> rfl,by rw[j] <;> first|(simp only[jA];done)|(simp only[jA];rfl)|rfl⟩
  have p0:(uk=0)=False:=aI N;have j:US=[]:=e1.trans (aC N);by_cases h1:uk=1
  ·have p1:(uk=1)=True:=aG h1
   have o:DV=some a0:=e2.trans ((aC N).trans (aD h1));have ap:du a0:=R _ o;refine tq (bQ r p0 p1) ?_;intro U Y O C;refine(((vQ ⟨a0,[]⟩ c5 bm _ _ _ _ a (VK H c4 bm c5 Z [] _ _) (VL a Z _ _ _) (by unfold cH;exact jY _) (λx hx=>by cases hx) ap).imp (ds:=[.ep c5 0 3 0 0,.agg [i64 a0,.val (.slice none 0 0)]]) ⟨fG _,F8 ⟨fG _,fO,trivial⟩,trivial⟩)).mono ?_;rintro d H3 ⟨rfl,c⟩;(first|rw[KJ,we a] at c|rw[we a] at c);subst c;refine ur aB (cA v r L a4) (av n v) ?_;exact⟨_,l _ _ _ _,_,m,by rw[o] <;> rfl,by rw[j] <;> first|(simp only[jA];done)|(simp only[jA];rfl)|rfl⟩
  ·have p1:(uk=1)=False:=aI h1
   have o:DV=none:=e2.trans ((aC N).trans (aC h1));refine ur aB (eP v r p0 p1 L a4) (av n v) ?_;exact⟨_,l _ _ _ _,_,m,by rw[o] <;> rfl,by rw[j] <;> rfl⟩
 have q1:=lF k i.length;have e1:US=Xu e:=by rw[hU];unfold Er;simp only;rw[lu (by omega)]
 have e2:DV=Y7 e:=by rw[hD];unfold CI;simp only;rw[lu (by omega)]
 have e3:DC ⟨i,e⟩ k=e.ar:=by unfold DC;simp only;rw[lu (by omega)]
 have e4:(oq ⟨i,e⟩ k).1=e.pl:=by unfold oq;simp only;rw[lu (by omega)]
 rw[e3] at z;rw[e4] at J;clear e3 e4 a3 hU hD;have M:US=tf e.ar++(if e.k=3 then I2 e.pl else if e.k=4 then [e.pl.lo] else []):=e1;have I:∀y∈tf e.ar,du y:=λy T=>B y (by rw[M];exact o8 _ T);have w:∀y∈oJ [] (tf e.ar),du y:=λy T=>(vd.1 T).elim (λh=>by cases h) (I y);refine tq (cw g1 g2 r a9 q1) ?_;intro U Y O C;refine((Iz e.ar c5 bm (i64 0) (.val (.bool false)) [] _ a (VK H c4 bm c5 Z _ _ _) (VL a Z _ _ _) z (λx hx=>by cases hx) I)).mono ?_;rintro d H3 ⟨rfl,c⟩;(first|rw[KJ,we a] at c|rw[we a] at c);subst c;by_cases h3:e.k=3
 ·have p3:(e.k=3)=True:=aG h3
  have j:US=tf e.ar++I2 e.pl:=by rw[M,aD h3]
  have o:DV=MZ e.pl:=e2.trans (aD h3);have A:du e.pl.lo:=by
   by_cases hz:e.pl.pr=[]
   ·exact R _ (by rw[o];exact aD hz)
   ·exact B _ (by rw[j];refine pL _ ?_;unfold I2;rw[aC hz];simp)
  refine tq (bQ g2 r p3) ?_;intro U Y O C;refine((vQ e.pl c5 bm _ _ _ _ a (VK H c4 bm c5 Z _ _ _) (VL a Z _ _ _) J w A)).mono ?_;rintro d H3 ⟨rfl,c⟩;(first|rw[KJ,we a] at c|rw[we a] at c);subst c;refine ur aB (cA v r L a4) (av n v) ?_;exact⟨_,l _ _ _ _,_,m,by rw[o] <;> rfl,by rw[j] <;> first|(simp only[jA];done)|(simp only[jA];rfl)|rfl⟩
 have p3:(e.k=3)=False:=aI h3;by_cases h4:e.k=4
 ·have p4:(e.k=4)=True:=aG h4
  have j:US=tf e.ar++[e.pl.lo]:=by rw[M,aC h3,aD h4]
  have o:DV=none:=e2.trans (aC h3);have A:du e.pl.lo:=B _ (by rw[j];simp);have a8:=KW w A;refine tq (bG g2 r p3 p4 L ab ad (av aa @xo.eq_1)) ?_;intro U Y O C;refine⟨a8,?_⟩;refine nx ?_;refine ur aB (cA v r L a4) (av n v) ?_;exact⟨_,l _ _ _ _,_,m,by rw[o] <;> rfl,by rw[j] <;> first|(simp only[jA];done)|(simp only[jA];rfl)|rfl⟩
 have p4:(e.k=4)=False:=aI h4;have j:US=tf e.ar:=by rw[M,aC h3,aC h4,bz]
 have o:DV=none:=e2.trans (aC h3);refine ur aB (ej g2 v r p3 p4 L a4) (av n v) ?_;exact⟨_,l _ _ _ _,_,m,by rw[o] <;> rfl,by rw[j]⟩
theorem aC4 (b:bn)(p:Int)(i k:Nat)(H:aA)(hi:i<b.bl.length)(w:At (fD b) p i k)(hc:bu (fD b)<=1000000)(ok:VM b.bl[i] k):
  aN prog 240 [.agg (cu b),i64 p] H λd H'=>∃bm,H bm=none/\d=.agg (xo bm (LH (i64 0) (CI b.bl[i] k)) (LG (.val (.bool false)) (CI b.bl[i] k)))/\H'=H.aU bm (.map (SM (oJ [] (Er b.bl[i] k)))):=by
 have t:=λn=>Hf b p b.bl[i] k i w n hc;have c:=λn=>Rt b.bl[i] k n ok;have g:(b.bl.map dM)[i]?=some (dM b.bl[i]):=bZ hi;have B:=lm dM b.bl;obtain⟨x,G⟩:=oX b.bl[i];rw[<-G] at c g;rw[<-G];obtain⟨K,f⟩:=oX (LH (i64 0) (CI x k));obtain⟨J,a⟩:=oX (LG (.val (.bool false)) (CI x k));obtain⟨S,v⟩:=oX (oJ [] (Er x k));rw[<-f,<-a,<-v] at c;rw[<-f,<-a,<-v];have R:D.cells K=some [K]:=by rw[f];cases CI x k <;> rfl
 have P:D.cells J=some [J]:=by rw[a];cases CI x k <;> rfl
 clear G f a v ok;have I:=aX i;have u:=aZ i;have o:(i:Int)<(b.bl.length:Int):=by omega
 simp only[dM] at c g;unfold cu at *;refine dO func240 ntmps240 results240 λw0 g0 Q N=>?_;refine t0 ?_;intro U Y O C;intro T A c4 m;refine Y _ ?_;refine Yc 2 A m ?_;have s:=(bF.1 m).2;refine t0 ?_;intro U Y O C;refine(t _).qs (eP B g I u hi o) ?_;intro U Y O C;refine(c _).mono ?_;rintro d _ ⟨bm,l,rfl,rfl⟩;have j:bm≠c4:=(bF.1 l).1;have r:=(bF.1 l).2;have M:∀(Z W:cY),((H.aU c4 Z).aU bm W) c4=some Z:=λZ W=>(aJ j.symm).trans (aK _ _ _);refine ur N (av @xo.eq_1 M) trivial ?_;refine⟨H.aU bm (.map (SM S)),λx z h=>?_,bm,r,rfl,rfl⟩;by_cases e:x=bm
 ·rw[e,aK] at h
  rw[e,aJ j,aK];exact h
 ·rw[aJ e] at h
  have L:x≠c4:=λe=>by rw[e,s] at h;cases h
  rw[aJ L,aJ e,aJ L];exact h
end Go.Proofs.YtffgfafbffdgaaaGreatDoor
