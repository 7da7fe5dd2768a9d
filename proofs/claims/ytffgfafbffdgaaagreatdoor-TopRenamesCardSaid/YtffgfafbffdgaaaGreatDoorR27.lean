/- Lemmas and contracts of functions, several texts in one. -/
import Derived.Test.YtffgfafbffdgaaaGreatDoorR26
set_option maxRecDepth 100000
set_option maxHeartbeats 4000000
set_option linter.all false
namespace Go.Proofs.YtffgfafbffdgaaaGreatDoor
open Go.RowKit
open Classical in
variable {b:bn}{p x:Int}{k c4 bm c5:Nat}{E V W:List (Int×Int)}{y:Int×Int}{H:aA}
noncomputable def Ef (b:bn) (p:Int):List Int:=if h:∃y:im×Nat,BW b p y.1 y.2 then Er h.choose.1 h.choose.2 else []
open Classical in
noncomputable def yU (b:bn) (p:Int):Option Int:=if h:∃y:im×Nat,BW b p y.1 y.2 then CI h.choose.1 h.choose.2 else none
theorem Q1 {x:im}(h:BW b p x k):Ef b p=Er x k:=by
 have a:∃y:im×Nat,BW b p y.1 y.2:=⟨(x,k),h⟩;unfold Ef;rw[kL a,(a.choose_spec.uniq h).1,(a.choose_spec.uniq h).2]
theorem HH {x:im}(h:BW b p x k):yU b p=CI x k:=by
 have a:∃y:im×Nat,BW b p y.1 y.2:=⟨(x,k),h⟩;unfold yU;rw[kL a,(a.choose_spec.uniq h).1,(a.choose_spec.uniq h).2]
theorem BW.lt {x:im}(h:BW b p x k):0<=p/\p<bu (fD b):=by obtain⟨i,c,a,_⟩:=h;exact a.lt
theorem xY (h:x∈Ef b p):∃y k,BW b p y k/\x∈Er y k:=by
 unfold Ef at h;split at h
 ·rename_i a;exact⟨_,_,a.choose_spec,h⟩
 ·cases h
theorem Wt (h:x∈Ef b p):zU b p x:=by
 obtain⟨y,k,a,c⟩:=xY h;exact .use a c
theorem Sp {q:Int}(h:yU b p≠some x)(hf:I5 (fD b) p q)(hl:zU b q x):zU b p x:=by
 obtain⟨y,k,a⟩:=DD hf.lt.1.1 hf.lt.1.2;rw[HH a] at h;exact .step a h hf hl
theorem Hj {P:Int->Int->Prop}(h1:∀p x,x∈Ef b p->P p x)(h2:∀p q x,yU b p≠some x->I5 (fD b) p q->P q x->P p x)(h:zU b p x):P p x:=by
 induction h with
 |use a e=>exact h1 _ _ (by rw[Q1 a];exact e)
 |step a c d _ f=>exact h2 _ _ _ (by rw[HH a];exact c) d f
noncomputable def sV (b:bn):List Int:=(my (bu (fD b))).flatMap (Ef b)
theorem UT (h:x∈Ef b p):x∈sV b:=by
 obtain⟨y,k,a,_⟩:=xY h;exact la.2 ⟨p,mU.2 a.lt,h⟩
theorem Dz (h:zU b p x):(0<=p/\p<bu (fD b))/\x∈sV b:=by
 refine Hj (P:=λp x=>(0<=p/\p<bu (fD b))/\x∈sV b) (λp x h=>?_) (λp q x _ c h=>⟨c.lt.1,h.2⟩) h;obtain⟨y,k,a,_⟩:=xY h;exact⟨a.lt,UT h⟩
noncomputable def Bq (b:bn):List (Int×Int):=(my (bu (fD b))).flatMap λp=>(sV b).map λx=>(p,x)
theorem Lj (h:zU b p x):(p,x)∈Bq b:=
 la.2 ⟨p,mU.2 (Dz h).1,cD.2 ⟨x,(Dz h).2,rfl⟩⟩
theorem oP {b d:Type}{f:b->List d}{n:Nat}:∀{l:List b},(∀x∈l,(f x).length<=n)->(l.flatMap f).length<=l.length * n
 |[],_=>by simp
 |a::l,h=>by
  rw[lz,aV,bx,kH];have:=oP (l:=l) λx c=>h x (dH _ c);have:=h a (by simp);omega
theorem K2 (b:bn):(Bq b).length<=bu (fD b) * (sV b).length:=by
 have:=oP (f:=λp=>(sV b).map λx=>(p,x)) (n:=(sV b).length) (l:=my (bu (fD b))) λx _=>by rw[aS];exact bh _
 rwa[iw] at this
theorem FL (G:Gr):(oh G).length<=bu G * bu G:=by
 have:=oP (f:=λp=>(Gf G p).map λq=>(p,q)) (n:=bu G) (l:=my (bu G)) λx _=>by rw[aS];exact EF G x
 rwa[iw] at this
theorem C7 (l:List (Int×Int))(x:Int):(cT l x).length<=l.length:=by unfold cT;rw[aS];exact kU _ _
theorem FQ {b c:Type}{f:b->List c}{a:b}:∀{l:List b},a∈l->(f a).length<=(l.flatMap f).length
 |x::l,h=>by
  rw[lz,aV];rcases bV.1 h with rfl|h
  ·omega
  ·have:=FQ (f:=f) h;omega
theorem UR (b:bn)(p:Int):(Ef b p).length<=(sV b).length:=by
 cases h:Ef b p with
 |nil=>exact jY _
 |cons x l=>
  rw[<-h]
  obtain⟨y,k,a,_⟩:=xY (b:=b) (p:=p) (x:=x) (by rw[h];simp)
  exact FQ (mU.2 a.lt)
def MQ (E V:List (Int×Int)):List (Int×Int)->Nat
 |[]=>0
 |y::l=>(if y∈V then 0 else (cT E y.1).length+1)+MQ E V l
theorem KH (E V:List (Int×Int))(y:Int×Int):∀l,MQ E (V++[y]) l<=MQ E V l
 |[]=>bh _
 |z::l=>by
  have:=KH E V y l;unfold MQ;by_cases h:z∈V
  ·rw[aD h,aD (o8 _ h)];omega
  ·rw[aC h];split <;> omega
theorem Qe (hy:y∉V):∀{l},y∈l->MQ E (V++[y]) l+((cT E y.1).length+1)<=MQ E V l
 |z::l,h=>by
  have h1:=KH E V y l;unfold MQ;by_cases e:z=y
  ·subst e
   rw[aC hy,aD (by simp)];omega
  ·have a:=Qe (E:=E) hy (l:=l) (by rcases bV.1 h with h|h;exact absurd h.symm e;exact h)
   by_cases h:z∈V
   ·rw[aD h,aD (o8 _ h)];omega
   ·rw[aC h,aC (by simp [h,e])];omega
theorem VH (E V:List (Int×Int)):∀l,MQ E V l<=l.length * (E.length+1)
 |[]=>jY _
 |y::l=>by
  have:=VH E V l;have:=C7 E y.1;unfold MQ;rw[bx,kH];split <;> omega
noncomputable def Aj (b:bn) (E:List (Int×Int)) (p x:Int) (j:Nat):List (Int×Int):=(((cT E p).take j).filter λq=>decide (yU b q≠some x)).map λq=>(q,x)
theorem TS (b:bn)(E:List (Int×Int))(p x:Int)(j:Nat):(Aj b E p x j).length<=(cT E p).length:=by
 unfold Aj;rw[aS];have:=kU (λq=>decide (yU b q≠some x)) ((cT E p).take j);rw[bX] at this;omega
theorem P2 (b:bn)(E:List (Int×Int))(p x:Int)(j:Nat):(Aj b E p x j).length<=j:=by
 unfold Aj;rw[aS];have:=kU (λq=>decide (yU b q≠some x)) ((cT E p).take j);rw[bX] at this;omega
theorem P3 {j:Nat}(h:j<(cT E p).length):Aj b E p x (j+1)=Aj b E p x j++(if yU b (cT E p)[j]=some x then [] else [((cT E p)[j],x)]):=by
 unfold Aj;rw[bw h,ly,bI];congr 1;by_cases e:yU b (cT E p)[j]=some x
 ·rw[aD e,tH (by simpa using e)];rfl
 ·rw[aC e,tG (by simpa using e)];rfl
theorem J9:y∈Aj b E p x (cT E p).length↔y.2=x/\yU b y.1≠some x/\(y.1,p)∈E:=by
 unfold Aj;rw[dI,cD];constructor
 ·rintro⟨q,a,rfl⟩
  rw[fN,dF,qC] at a;exact⟨rfl,a.2,a.1⟩
 ·rintro⟨c,d,e⟩
  exact⟨y.1,by rw[fN,dF,qC];exact⟨e,d⟩,by rw[<-c]⟩
structure KU (b:bn) (V W:List (Int×Int)):Prop where
 nd:V.Nodup
 sv:∀y∈V,zU b y.1 y.2
 sw:∀y∈W,zU b y.1 y.2
 us:∀p x,x∈Ef b p->(p,x)∈V\/(p,x)∈W
 st:∀y∈V,∀p,yU b p≠some y.2->I5 (fD b) p y.1->(p,y.2)∈V\/(p,y.2)∈W
theorem KU.init (h:∀p x,(p,x)∈W↔x∈Ef b p):KU b [] W:=
 ⟨List.nodup_nil,by simp,λy c=>Wt ((h _ _).1 c),λp x a=>.inr ((h _ _).2 a),by simp⟩
theorem KU.skip (h:KU b V (W++[y]))(hy:y∈V):KU b V W:=by
 have a:∀z,z∈V\/z∈W++[y]->z∈V\/z∈W:=λz hz=>by
  rcases hz with hz|hz
  ·exact .inl hz
  ·rcases bB.1 hz with hz|hz
   ·exact .inr hz
   ·rw[bM] at hz;rw[hz];exact .inl hy
 exact⟨h.nd,h.sv,λz hz=>h.sw z (o8 _ hz),λp x e=>a _ (h.us p x e),λz hz p c d=>a _ (h.st z hz p c d)⟩
theorem KU.add (h:KU b V (W++[y]))(c:y∉V):KU b (V++[y]) (W++Aj b (oh (fD b)) y.1 y.2 (cT (oh (fD b)) y.1).length):=by
 have j:=h.sw y (by simp);have a:∀z,z∈V\/z∈W++[y]->z∈V++[y]\/z∈W++Aj b (oh (fD b)) y.1 y.2 (cT (oh (fD b)) y.1).length:=λz hz=>by
  rcases hz with hz|hz
  ·exact .inl (o8 _ hz)
  ·rcases bB.1 hz with hz|hz
   ·exact .inr (o8 _ hz)
   ·exact .inl (pL _ hz)
 refine⟨mW.2 ⟨h.nd,by simp,λz hz w i e=>by rw[bM] at i;rw[e,i] at hz;exact c hz⟩,λz hz=>?_,λz hz=>?_,λp x m=>a _ (h.us p x m),λz hz p f g=>?_⟩
 ·rcases bB.1 hz with hz|hz
  ·exact h.sv z hz
  ·rw[bM] at hz;rw[hz];exact j
 ·rcases bB.1 hz with hz|hz
  ·exact h.sw z (o8 _ hz)
  ·obtain⟨k,l,d⟩:=J9.1 hz
   rw[sM] at d;rw[k];exact Sp l d j
 ·rcases bB.1 hz with hz|hz
  ·exact a _ (h.st z hz p f g)
  ·rw[bM] at hz
   subst hz;exact .inr (pL _ (J9.2 ⟨rfl,f,sM.2 g⟩))
theorem KU.fin (h:KU b V [])(y:Int×Int):y∈V↔zU b y.1 y.2:=by
 constructor
 ·exact h.sv y
 ·intro d
  refine Hj (P:=λp x=>(p,x)∈V) (λp x f=>?_) (λp q x a c e=>?_) d
  ·rcases h.us p x f with h|h
   ·exact h
   ·cases h
  ·rcases h.st (q,x) e p a c with h|h
   ·exact h
   ·cases h
def Lp (V:List (Int×Int)) (p:Int):List Int:=(V.filter λy=>decide (y.1=p)).map (·.2)
theorem xJ:x∈Lp V p↔(p,x)∈V:=by
 unfold Lp;rw[cD];constructor
 ·rintro⟨y,a,rfl⟩
  rw[fN,dF] at a;rw[<-a.2];exact a.1
 ·intro h
  exact⟨(p,x),by rw[fN];exact⟨h,by simp⟩,rfl⟩
theorem Qt (V:List (Int×Int))(y:Int×Int):Lp (V++[y]) y.1=Lp V y.1++[y.2]:=by unfold Lp;rw[ly,bI];simp
theorem Xz (h:p≠y.1):Lp (V++[y]) p=Lp V p:=by
 unfold Lp;rw[ly,bI];have:¬y.1=p:=λe=>h e.symm;simp [this]
theorem VO (V:List (Int×Int))(p:Int):(Lp V p).length<=V.length:=by unfold Lp;rw[aS];exact kU _ _
theorem M6 (h:V.Nodup)(p:Int):(Lp V p).Nodup:=by
 unfold Lp;rw[yy] at *;rw[rE];refine List.Pairwise.imp_of_mem (λ{a b} d f c e=>c ?_) (h.filter _);rw[fN,dF] at d f;exact mc (d.2.trans f.2.symm) e
open Tryz
theorem Vt (els:List (List D))(H:aA)(hl:els.length<=1000000):aN prog 58 [.seq 2 els] H λd H'=>d=.seq 2 els/\H=H':=by refine aq (K:=λd=>d=.seq 2 els) ?_;refine dO func58 ntmps58 results58 λp o Q h=>?_;refine t0 ?_;intro U Y O C;intro b j;refine Y _ ?_;cases b with|true=>(refine u0 h ?_;have k:els=[]:=eC λe=>Bool.noConfusion (j λi=>e (cy i));exact⟨H,aF _,aF _,_,iq,by rw[k]⟩)|false=>(refine t0 ?_;intro U Y O C;intro g c;refine ax (e:=117) QO rfl QO rfl QM rfl (by decide) (aQ (aF _) c) (.inr ⟨g,0,rfl,rfl,c,aK _ _ _⟩:Gl H 117 2 [] (.os g 0 2 0 0) (H.aU g (.row 117 0 2 [])) (some g)) (new:=els) (by exact⟨rfl,rfl⟩) (by simp only[dX];omega) λd n m f a l=>?_;refine u0 h ?_;rw[cz] at f;exact⟨_,aF _,a,_,da a f,rfl⟩)
theorem Fg:∀(l:List qO) (p:Int) (s:qO),CW p (l++[s])=CW p l++J0 (p+l.length) s
 |[],p,s=>by show J0 p s++[]=[]++J0 (p+0) s;rw[bz,cz,Int.add_zero]
 |x::l,p,s=>by
  show J0 p x++CW (p+1) (l++[s])=J0 p x++CW (p+1) l++_;rw[Fg l,bE,bx];congr 3;omega
theorem Ff:∀(l:List im) (p:Int) (x:im),Fe p (l++[x])=Fe p l++CW (p+bu (l.map λx=>(x.st.length,x.tm.tg))) x.st
 |[],p,x=>by show CW p x.st++[]=[]++CW (p+0) x.st;rw[bz,cz,Int.add_zero]
 |y::l,p,x=>by
  show CW p y.st++Fe (p+y.st.length+1) (l++[x])=CW p y.st++Fe (p+y.st.length+1) l++_;rw[Ff l,bE];congr 3;simp only[cC,bu];omega
theorem Dx:∀(l:List qO) (p:Int),(CW p l).length<=l.length
 |[],_=>bh _
 |s::l,p=>by
  have:=Dx l (p+1);have a:(J0 p s).length<=1:=by unfold J0;split <;> simp
  show(J0 p s++CW (p+1) l).length<=_;rw[aV,bx];omega
theorem Dv:∀(l:List im) (p:Int),(Fe p l).length<=bu (l.map λx=>(x.st.length,x.tm.tg))
 |[],_=>bh _
 |x::l,p=>by
  have:=Dv l (p+x.st.length+1);have a:=Dx x.st p;show(CW p x.st++Fe _ l).length<=_;simp only[aV,cC,bu];omega
theorem Of (b:bn):(pg b).length<=bu (fD b):=Dv _ _
theorem Sf {i:Nat}(h:i<b.bl.length):Fe 0 (b.bl.take (i+1))=Fe 0 (b.bl.take i)++CW (dG (fD b) i) b.bl[i].st:=by
 rw[bw h,Ff,Int.zero_add];congr 3;unfold dG fD;rw[iK]
def Ys (b:bn):Prop:=∀x∈b.bl,∀s∈x.st,s.rv.pl.pr.length<=1000000
theorem Sg (b:bn)(H:aA)(hc:bu (fD b)<=1000000)(ho:Ys b):aN prog 94 [.agg (cu b)] H λd H'=>d=.seq 5 ((pg b).map pF)/\H=H':=by
 refine aq (K:=λd=>d=.seq 5 ((pg b).map pF)) ?_;have a0:=lm dM b.bl;have a7:=vc (fD b);rw[pB] at a7;unfold cu;refine dO func94 ntmps94 results94 λw0 g0 Q aB=>?_;refine t0 ?_;intro U Y O C;intro c1 a8;refine Y _ ?_;refine cm 1 a8 ?_;refine tn a0 ?_;refine aO b.bl.length (λi s=>s.df=[]/\s.fr 4=i64 (dG (fD b) i)/\s.fr 11=.seq 7 (b.bl.map dM)/\s.fr 12=i64 b.bl.length/\s.fr 13=i64 i/\H.le s.H/\∃z,Gl H 161 5 ((Fe 0 (b.bl.take i)).map pF) (s.fr 3) s.H z) ⟨rfl,rfl,rfl,rfl,rfl,aF _,none,eB _ _ _ _⟩ ?_;rintro i s hi ⟨g,B,f,a,c,y,z,r⟩;have hx:=aX i;have a4:=aZ i;by_cases k:i<b.bl.length
 case neg=>
  have q1:=lF i b.bl.length;rw[bK (by omega)] at r;refine ur aB (bQ a c q1) g ?_;exact⟨_,aF _,y,_,da y r,rfl⟩
 have V:(i:Int)<(b.bl.length:Int):=by omega
 have q1:((i:Int)<(b.bl.length:Int))=True:=aG V;have w3:=wS i;have E:(b.bl.map dM)[i]?=some (dM b.bl[i]):=bZ k;have Z:dG (fD b) (i+1)=dG (fD b) i+b.bl[i].st.length+1:=by rw[oB (by rw[pB];exact k),sc k]
 have am:=sH (G:=fD b) (i:=i+1);have D:=Sf k;have a2:=ho b.bl[i] (ao k);have J:=Dv (b.bl.take i) 0;have ad:bu ((b.bl.take i).map λx=>(x.st.length,x.tm.tg))=dG (fD b) i:=by unfold dG fD;rw[iK]
 rw[ad] at J;obtain⟨x,ag⟩:=oX b.bl[i];rw[<-ag] at E Z D a2;have a1:=lm ji x.st;simp only[dM] at E;refine tq (bG f a c a0 q1 E hx (bQ a4 k V)) ?_;intro U Y O C;intro c6 a9;refine Y _ ?_;refine cm 6 a9 ?_;refine tq a1 ?_;intro U Y O C;obtain⟨F,hF⟩:=oX (dG (fD b) i);rw[<-hF] at B Z D J;obtain⟨L0,a6⟩:=oX (Fe 0 (b.bl.take i));rw[<-a6] at r D J;refine aO x.st.length (λj o=>o.df=[]/\o.fr 4=i64 (F+j:Nat)/\o.fr 11=.seq 7 (b.bl.map dM)/\o.fr 12=i64 b.bl.length/\o.fr 13=i64 i/\o.fr 18=.seq 11 (x.st.map ji)/\o.fr 19=i64 x.st.length/\o.fr 20=i64 j/\H.le o.H/\∃z,Gl H 161 5 ((L0++CW F (x.st.take j)).map pF) (o.fr 3) o.H z) ⟨g,B,f,a,c,rfl,rfl,rfl,y,z,by rw[gK];show Gl H _ 5 ((L0++[]).map pF) _ _ _;rw[bz];exact r⟩ ?_;clear g B f a c y r z;rintro j o hj ⟨g,B,f,a,c,A,p,q,y,z,r⟩;have ak:=aX j;have a5:=aZ j;by_cases l:j<x.st.length
 case neg=>
  have q2:=lF j x.st.length;have e:j=x.st.length:=by omega
  subst e;rw[dI,<-D] at r;have w4:IntKind.i64.wrap (((F+x.st.length:Nat):Int)+1)=((dG (fD b) (i+1):Nat):Int):=by rw[aP (by omega)];omega
  refine tn (ej B c p q q2 w3 w4) ?_;exact⟨k,g,rfl,f,a,rfl,y,z,r⟩
 have W:(j:Int)<(x.st.length:Int):=by omega
 have q2:((j:Int)<(x.st.length:Int))=True:=aG W;have w4:=wS j;have w5:IntKind.i64.wrap (((F+j:Nat):Int)+1)=((F+(j+1):Nat):Int):=by rw[aP (by omega)];omega
 have I:(x.st.map ji)[j]?=some (ji x.st[j]):=bZ l;have m:CW F (x.st.take (j+1))=CW F (x.st.take j)++J0 ((F+j:Nat):Int) x.st[j]:=by
  rw[bw l,Fg,bX,mZ (by omega)];congr 2
 have ae:=Dx (x.st.take j) F;rw[bX] at ae;have L:=a2 x.st[j] (ao l);obtain⟨u,hu⟩:=oX x.st[j];rw[<-hu] at I m L;obtain⟨T,R,⟨S,N,w,v,⟨t,n⟩,M⟩,P⟩:=u;simp only at L;have ab:=λH1=>Vt (n.map pD) H1 (by rw[aS];exact L);simp only[ji] at I;refine tq (bG A p q a1 q2 I ak (bQ a5 l W)) ?_;intro U Y O C;intro c8 aa;refine Y _ ?_;refine cm 8 aa ?_;by_cases hk:T=0
 case neg=>
  have p0:(T=0)=False:=aI hk;have e:J0 ((F+j:Nat):Int) ⟨T,R,⟨S,N,w,v,⟨t,n⟩,M⟩,P⟩=[]:=aC λh=>hk h.1;rw[e,bz] at m;refine tn (cw B q p0 w4 w5) ?_;exact⟨l,g,rfl,f,a,c,A,p,rfl,y,z,by rw[m];exact r⟩
 have p0:(T=0)=True:=aG hk;by_cases hr:S=1
 case neg=>
  have p1:(S=1)=False:=aI hr;have e:J0 ((F+j:Nat):Int) ⟨T,R,⟨S,N,w,v,⟨t,n⟩,M⟩,P⟩=[]:=aC λh=>hr h.2;rw[e,bz] at m;refine tn (eP B q p0 p1 w4 w5) ?_;exact⟨l,g,rfl,f,a,c,A,p,rfl,y,z,by rw[m];exact r⟩
 have p1:(S=1)=True:=aG hr;have e:J0 ((F+j:Nat):Int) ⟨T,R,⟨S,N,w,v,⟨t,n⟩,M⟩,P⟩=[⟨w,((F+j:Nat):Int),v,⟨t,n⟩⟩]:=aD ⟨hk,hr⟩;rw[e] at m;refine tq (av p0 p1) ?_;intro U Y O C;intro c9 X;refine Y _ ?_;refine t0 ?_;intro U Y O C;refine(ab _).qs B ?_;intro U Y O C;refine ax (e:=161) Xc rfl Xc rfl VE rfl (by decide) (aQ y (iY y X)) (r.new X) (new:=[pF ⟨w,((F+j:Nat):Int),v,⟨t,n⟩⟩]) (by exact⟨rfl,rfl⟩) (by rw[aS,aV];show(_+1) * _<=_;omega) λd2 H2 al ac a3 ap=>?_;refine tq (cA B q w4 w5) ?_;intro U Y O C;refine⟨l,g,rfl,f,a,c,A,p,rfl,a3,al,?_⟩;rw[m,<-bE,bI];exact ac
def xo (a:Nat) (b df:D):List D:=[.val (.map (some a)),b,df]
def uR (S:List Int) (x:Int):List Int:=if x∈S then S else S++[x]
def oJ (S:List Int) (l:List Int):List Int:=l.foldl uR S
theorem jA (S l m:List Int):oJ S (l++m)=oJ (oJ S l) m:=mX
theorem Fo {S:List Int}{y:Int}:y∈uR S x↔y∈S\/y=x:=by
 unfold uR;split
 ·rename_i h
  exact⟨.inl,λa=>a.elim id λe=>e▸h⟩
 ·rw[bB,bM]
theorem vd {l:List Int}:∀{S:List Int}{y:Int},y∈oJ S l↔y∈S\/y∈l:=by
 induction l with
 |nil=>intro S y;exact⟨.inl,λh=>h.elim id λh=>by cases h⟩
 |cons x l a=>
  intro S y
  show y∈oJ (uR S x) l↔_
  rw[a,Fo,bV,or_assoc]
theorem Gq (S:List Int)(x:Int):eJ (SM S) (.int .i64 x) (.val (.bool true))=SM (uR S x):=by
 unfold uR;split
 ·rename_i h
  induction S with
  |nil=>cases h
  |cons a S b=>
   rw[uv]
   simp only[eJ]
   by_cases e:a=x
   ·subst e;rw[aD rfl]
   ·rw[aC (by simpa using e),b (by rcases bV.1 h with h|h;exact absurd h.symm e;exact h)]
 ·rename_i h;exact Cv h
theorem KW {S:List Int}(h:∀x∈S,du x)(hx:du x):SP prog 3 (SM S) (.int .i64 x):=
 ⟨Go.Maps.int_keyed underlying3,kn underlying3 hx,λp a=>by
  unfold SM SV at a;rw[gL,cD] at a;obtain⟨y,b,rfl⟩:=a;exact kn underlying3 (h y b)⟩
theorem Og (l:List gq)(o:gq):tf (l++[o])=tf l++(if o.k=0\/o.k=1 then [o.pl.lo] else []):=by
 unfold tf EK;rw[ly,bI];congr 1;by_cases h:o.k=0\/o.k=1
 ·rw[aD h,tG (by simpa using h)];rfl
 ·rw[aC h,tH (by simpa using h)];rfl
theorem Iz (l:List gq)(r c:Nat)(lo df:D)(S:List Int)(H:aA)(P:r≠c)(he:H r=some (.row 341 0 3 [xo c lo df]))(hm:H c=some (.map (SM S)))(hl:cH l.length)(hS:∀x∈S,du x)(z:∀x∈tf l,du x):
  aN prog 349 [.ep r 0 3 0 0,.seq 4 (l.map db)] H λd H'=>d=.eO []/\H'=H.aU c (.map (SM (oJ S (tf l)))):=by
 have E:=lm db l;unfold cH at hl;refine dO func349 ntmps349 results349 λw0 g0 Q aB=>?_;refine tn E ?_;refine aO l.length (λi s=>s.df=[]/\s.fr 0=.ep r 0 3 0 0/\s.fr 6=.seq 4 (l.map db)/\s.fr 7=i64 l.length/\s.fr 8=i64 i/\s.H=H.aU c (.map (SM (oJ S (tf (l.take i)))))) ⟨rfl,rfl,rfl,rfl,rfl,(lX hm).symm⟩ ?_;rintro i s hi ⟨f,v,G,w,y,g⟩;have I:=aX i;have M:=aZ i;by_cases a:i<l.length
 case neg=>
  have W:=lF i l.length;rw[bK (by omega)] at g;refine tq (bQ w y W) ?_;intro U Y O C;exact aB _ _ (.inl rfl) f ⟨_,aF _,rfl,g⟩
 have n:(i:Int)<(l.length:Int):=by omega
 have W:((i:Int)<(l.length:Int))=True:=aG n;have Z:=wS i;have m:(l.map db)[i]?=some (db l[i]):=bZ a;have b:tf (l.take (i+1))=tf (l.take i)++(if l[i].k=0\/l[i].k=1 then [l[i].pl.lo] else []):=by rw[bw a,Og]
 have q:∀j x,x∈tf (l.take j)->x∈tf l:=λj x h=>by
  have e:tf l=tf (l.take j)++tf (l.drop j):=by
   unfold tf EK;rw[<-bI,<-ly,ga]
  rw[e];exact o8 _ h
 obtain⟨u,hu⟩:=oX l[i];rw[<-hu] at m b;simp only[db] at m;refine tq (bG G w y E W m I (bQ M a n)) ?_;intro U Y O C;intro c5 R;refine Y _ ?_;refine cm 5 R ?_;by_cases A:u.k=0\/u.k=1
 case neg=>
  have F:(u.k=0)=False:=aI λh=>A (.inl h);have V:(u.k=1)=False:=aI λh=>A (.inr h);rw[aC A,bz] at b;refine tn (cA y F V Z) ?_;exact⟨a,f,v,G,w,rfl,by rw[b];exact g⟩
 rw[aD A] at b;obtain⟨T,N⟩:=oX (oJ S (tf (l.take i)));have K:∀x∈T,du x:=λx I=>by
  rw[N,vd] at I;exact I.elim (hS x) λh=>z x (q i x h)
 have L:du u.pl.lo:=z _ (q (i+1) _ (by rw[b];simp));have B:=KW K L;have J:oJ S (tf (l.take (i+1)))=uR T u.pl.lo:=by rw[b,jA,<-N];rfl
 have p:=Gq T u.pl.lo;rw[<-N] at g;have X:s.H r=some (.row 341 0 3 [xo c lo df]):=by rw[g,aJ P];exact he
 have rm:s.H c=some (.map (SM T)):=by rw[g,aK]
 have o:s.H.aU c (.map (SM (uR T u.pl.lo)))=H.aU c (.map (SM (oJ S (tf (l.take (i+1)))))):=by rw[g,iv,J]
 unfold xo at X;have fb:((some (23:Tmp)==some 24||some (23:Tmp)==some 25||some (23:Tmp)==some 26)=true)=False:=aI (by decide);rcases A with h0|h1
 ·have F:(u.k=0)=True:=aG h0
  refine tq F ?_;intro U Y O C;refine wE (λt=>t==some 24||t==some 25||t==some 26) (λ_=>false) (λ_ _ _ _=>False) (λ_ _ _ _ _=>False) λU Y=>?_;have fs:=And.intro v (And.intro X (And.intro rm (And.intro fb p)));refine uj ?_;refine nx ?_;(try clear fs);refine⟨B,Y _ ?_⟩;refine tn (av y Z) ?_;exact⟨a,f,v,G,w,rfl,o⟩
 ·have F:=nF (u.k=0)
  have V:(u.k=1)=True:=aG h1;refine tq (av F V) ?_;intro U Y O C;refine wE (λt=>t==some 24||t==some 25||t==some 26) (λ_=>false) (λ_ _ _ _=>False) (λ_ _ _ _ _=>False) λU Y=>?_;have fs:=And.intro v (And.intro X (And.intro rm (And.intro fb p)));refine uj ?_;refine nx ?_;(try clear fs);refine⟨B,Y _ ?_⟩;refine tn (av y Z) ?_;exact⟨a,f,v,G,w,rfl,o⟩
def LH (a:D):Option Int->D
 |none=>a
 |some v=>i64 v
def LG (df:D):Option Int->D
 |none=>df
 |some _=>.val (.bool true)
theorem vQ (p:gR)(c a:Nat)(u df:D)(S:List Int)(H:aA)(r:c≠a)(i:H c=some (.row 341 0 3 [xo a u df]))(hm:H a=some (.map (SM S)))(hp:cH p.pr.length)(E:∀x∈S,du x)(o:du p.lo):
  aN prog 350 [.ep c 0 3 0 0,.agg (ee p)] H λd H'=>d=.eO []/\H'=(H.aU c (.row 341 0 3 [xo a (LH u (MZ p)) (LG df (MZ p))])).aU a (.map (SM (oJ S (I2 p)))):=by
 have j:=lm pD p.pr;have s:=KW E o;have l:=Gq S p.lo;have ev:∀q,MZ p=q->MZ p=q:=λ_ h=>h;unfold cH at hp;have F:=i;unfold xo at i;by_cases f:p.pr=[]
 ·have m:MZ p=some p.lo:=aD f
  have n:I2 p=[]:=aD f;rw[m,n];have G:p.pr.length=0:=by rw[f];rfl
  have y:=nF ((0:Int)<(p.pr.length:Int));have b:∀R:cY,(H.aU c R).aU a (.map (SM S))=H.aU c R:=λR=>lX ((aJ r.symm).trans hm);have g:=b (.row 341 0 3 [xo a (i64 p.lo) (.val (.bool true))]);unfold xo at g;obtain⟨v,w⟩:=p;simp only[ee] at *;refine dO func350 ntmps350 results350 λI B Q k=>?_;refine t0 ?_;intro U Y O C;intro z e;refine Y _ ?_;refine cm 3 e ?_;refine tq (cA j y i iv) ?_;intro U Y O C;exact k _ _ (.inl rfl) rfl ⟨_,aF _,rfl,g.symm⟩
 ·have m:MZ p=none:=aC f
  have n:I2 p=[p.lo]:=aC f;rw[m,n];have G:p.pr.length≠0:=λh=>f (cy h);have y:=nT ((0:Int)<(p.pr.length:Int));have b:(H.aU c (.row 341 0 3 [[.val (.map (some a)),u,df]])).aU a (.map (SM (uR S p.lo)))=H.aU a (.map (SM (uR S p.lo))):=by rw[lX i]
  have A:((some (11:Tmp)==some 12||some (11:Tmp)==some 13)=true)=False:=aI (by decide);obtain⟨v,w⟩:=p;simp only[ee] at *;refine dO func350 ntmps350 results350 λI B Q k=>?_;refine t0 ?_;intro U Y O C;intro z e;refine Y _ ?_;refine cm 3 e ?_;refine tq (av j y) ?_;intro U Y O C;refine wE (λt=>t==some 12||t==some 13) (λ_=>false) (λ_ _ _ _=>False) (λ_ _ _ _ _=>False) λU Y=>?_;have fs:=And.intro i (And.intro hm (And.intro A l));refine uj ?_;refine nx ?_;(try clear fs);refine⟨s,Y _ ?_⟩;refine t0 ?_;intro U Y O C;exact k _ _ (.inl rfl) rfl ⟨_,aF _,rfl,b.symm⟩
def EH (H:aA) (b a c:Nat) (Z:cY) (S:List Int) (d df:D):aA:=((H.aU b Z).aU a (.map (SM S))).aU c (.row 341 0 3 [xo a d df])
theorem VK (H:aA)(d a b:Nat)(Z:cY)(S:List Int)(c df:D):(EH H d a b Z S c df) b=some (.row 341 0 3 [xo a c df]):=aK _ _ _
theorem VL (a:c5≠bm)(Z:cY)(S:List Int)(b df:D):(EH H c4 bm c5 Z S b df) bm=some (.map (SM S)):=(aJ a.symm).trans (aK _ _ _)
theorem EH4 (a:c5≠c4)(b:bm≠c4)(Z:cY)(S:List Int)(c df:D):(EH H c4 bm c5 Z S c df) c4=some Z:=(aJ a.symm).trans ((aJ b.symm).trans (aK _ _ _))
theorem we (a:c5≠bm)(Z:cY)(S:List Int)(c df:D)(b:List Int):(EH H c4 bm c5 Z S c df).aU bm (.map (SM b))=EH H c4 bm c5 Z b c df:=by unfold EH;rw[aA.BI a,iv]
theorem KJ (H:aA)(e c d:Nat)(Z:cY)(S:List Int)(f df b a:D):(EH H e c d Z S f df).aU d (.row 341 0 3 [xo c b a])=EH H e c d Z S b a:=iv _ _ _ _
theorem aCZ (a:c5≠c4)(b:bm≠c4)(Z:cY)(S:List Int)(d df:D)(c:cY):(EH H c4 bm c5 Z S d df).aU c4 c=EH H c4 bm c5 c S d df:=by unfold EH;rw[aA.BI a,aA.BI b,iv]
theorem aCY (d:c5≠c)(h4:H c4=none)(h5:H c5=none)(f:c≠c4)(Z:cY)(S:List Int)(g df:D):(H.aU c (.map (SM S))).le (EH H c4 c c5 Z S g df):=λb x a=>by
 unfold EH;by_cases e:b=c
 ·rw[e,aK] at a
  rw[e,aJ d.symm,aK];exact a
 ·rw[aJ e] at a
  rw[aJ (λe=>by rw[e,h5] at a;cases a),aJ e,aJ (λe=>by rw[e,h4] at a;cases a)];exact a
structure VM (x:im) (k:Nat):Prop where
 st:cH x.st.length
 kl:k<=x.st.length
 us:∀y∈Er x k,du y
 df:∀y,CI x k=some y->du y
 ar:cH (DC x k).length
 wp:cH (oq x k).1.pr.length
 bo:∀s,x.st[k]?=some s->s.k=0->du s.rv.pl.lo
theorem Rt (x:im)(k:Nat)(H:aA)(ok:VM x k):aN prog 308 [.agg (dM x),i64 k] H λd H'=>∃e,H e=none/\d=.agg (xo e (LH (i64 0) (CI x k)) (LG (.val (.bool false)) (CI x k)))/\H'=H.aU e (.map (SM (oJ [] (Er x k)))):=by
 have a8:=lm ji x.st;obtain⟨hs,hk,B,M,z,F,a2⟩:=ok;unfold cH at hs;obtain⟨T,hU⟩:=oX (Er x k);obtain⟨R,hD⟩:=oX (CI x k);rw[<-hU] at B ⊢;rw[<-hD] at M ⊢;obtain⟨j,c⟩:=x;simp only at hs hk a8;simp only[dM];refine dO func308 ntmps308 results308 λw0 g0 Q aB=>?_;refine t0 ?_;intro U Y O C;intro c2 ae l a3;refine Y _ ?_;refine Yc 2 ae a3 ?_;have al:=(bF.1 a3).2;clear ae a3;refine t0 ?_;intro U Y O C;intro e a1 f L;refine Y _ ?_;have a0:e≠l:=(bF.1 a1).1;have o:=(bF.1 a1).2;have a:f≠e:=(bF.1 L).1;have ad:f≠l:=(bF.1 (bF.1 L).2).1;have ak:=(bF.1 (bF.1 L).2).2;clear a1 L;obtain⟨Z,hZ⟩:∃Z:cY,Z=.row 341 0 3 [[.val (.map none),i64 0,.val (.bool false)]]:=⟨_,rfl⟩;refine iz (λs=>s.df=[]/\s.fr 1=i64 k/\s.fr 2=.rp [.seq 11 (j.map ji),i64 c.k,.seq 1 (c.tg.map iD),.seq 4 (c.ar.map db),i64 c.pl.lo,.seq 2 (c.pl.pr.map pD),bC c.nm]/\s.fr 4=.ep l 0 3 0 0/\s.fr 5=.ep f 0 3 0 0/\s.H=EH H l e f Z [] (i64 0) (.val (.bool false))) ⟨rfl,rfl,rfl,rfl,rfl,by rw[hZ] <;> rfl⟩ ?_;rintro s ⟨p,g1,g2,v,r,gH⟩;have b1:∀(s:St) (X:aA),s.H=X->s=s.cJ X:=λs X h=>by rw[<-h];rfl
 rw[b1 s _ gH];have I:∀S i g,(EH H l e f Z S i g) f=some (.row 341 0 3 [[.val (.map (some e)),i,g]]):=λS i g=>VK H l e f Z S i g;have ab:∀S i g,(EH H l e f Z S i g) e=some (.map (SM S)):=λS i g=>VL a Z S i g;have ac:∀S i g S',(EH H l e f Z S i g).aU e (.map (SM S'))=EH H l e f Z S' i g:=λS i g S'=>we a Z S i g S';have a4:∀S i g,(EH H l e f Z S i g) l=some (.row 341 0 3 [[.val (.map none),i64 0,.val (.bool false)]]):=λS i g=>(EH4 ad a0 Z S i g).trans (by rw[hZ]);have n:∀S i g Z',(H.aU e (.map (SM S))).le ((EH H l e f Z S i g).aU l Z'):=λS i g Z'=>by rw[aCZ ad a0];exact aCY a al ak a0 Z' S i g
 have a9:=Gq;by_cases t:k<j.length
 ·have aa:(k:Int)<(j.length:Int):=by omega
  have q1:((k:Int)<(j.length:Int))=True:=aG aa;have hx:=aX k;have ap:=aZ k;have a6:(j.map ji)[k]?=some (ji j[k]):=bZ t;have e1:T=usS j[k]:=by rw[hU];unfold Er;simp only;rw[az t]
  have V:R=dfS j[k]:=by rw[hD];unfold CI;simp only;rw[az t]
  have e3:DC ⟨j,c⟩ k=j[k].rv.ar:=by unfold DC;simp only;rw[az t]
  have W:j[k].k=0->(oq ⟨j,c⟩ k).1=j[k].pl:=λh=>by unfold oq;simp only;rw[az t];simp only;rw[aD h]
  have e5:j[k].k=0->du j[k].rv.pl.lo:=λh=>a2 j[k] (az t) h;rw[e3] at z;clear e3 a2 hU hD;obtain⟨u,hu⟩:=oX j[k];rw[<-hu] at a6 z e1 V W e5;clear hu;obtain⟨uk,D,⟨rk,b3,b5,b2,⟨ag,b4⟩,G⟩,P⟩:=u;simp only[ji] at a6;simp only at z W e5;refine tq (bG g1 g2 a8 q1 a6 hx ap (av t aa)) ?_;intro U Y O C;intro c6 b0;refine Y _ ?_;refine cm 6 b0 ?_;by_cases K:uk=0
  ·have p0:(uk=0)=True:=aG K
   have W:=W K;have e5:=e5 K;have m:T=tf G++((if rk=1 then [ag] else [])++I2 D):=e1.trans (aD K);have q:R=MZ D:=V.trans (aD K);have A:du D.lo:=by
    by_cases hz:D.pr=[]
    ·exact M _ (by rw[q];exact aD hz)
    ·exact B _ (by rw[m];refine pL _ (pL _ ?_);unfold I2;rw[aC hz];simp)
   have E:∀y∈tf G,du y:=λy N=>B y (by rw[m];exact o8 _ N);have w:∀y∈oJ [] (tf G),du y:=λy N=>(vd.1 N).elim (λh=>by cases h) (E y);rw[W] at F;refine tq (av r p0) ?_;intro U Y O C;refine((Iz G f e (i64 0) (.val (.bool false)) [] _ a (VK H l e f Z _ _ _) (VL a Z _ _ _) z (λx hx=>by cases hx) E)).mono ?_;rintro d H3 ⟨rfl,b⟩;(first|rw[KJ,we a] at b|rw[we a] at b);subst b;by_cases hb:rk=1
   ·have p1:(rk=1)=True:=aG hb
    rw[aD hb] at m;have a7:=KW w e5;have aw:∀y∈uR (oJ [] (tf G)) ag,du y:=λy N=>(Fo.1 N).elim (w y) λh=>h▸e5;refine tq (ej r p1 I ab ac a9 @xo.eq_1) ?_;intro U Y O C;refine⟨a7,?_⟩;refine nx ?_;refine tq r ?_;intro U Y O C;refine((vQ D f e _ _ _ _ a (VK H l e f Z _ _ _) (VL a Z _ _ _) F aw A)).mono ?_;rintro d H3 ⟨rfl,b⟩;(first|rw[KJ,we a] at b|rw[we a] at b);subst b;refine ur aB (cA v r I a4) (av p v) ?_;exact⟨_,n _ _ _ _,_,o,by rw[q] <;> rfl,by rw[m] <;> first|(simp only[jA];done)|(simp only[jA];rfl)|rfl⟩
   ·have p1:(rk=1)=False:=aI hb
    rw[aC hb,cz] at m;refine tq (av r p1) ?_;intro U Y O C;refine((vQ D f e _ _ _ _ a (VK H l e f Z _ _ _) (VL a Z _ _ _) F w A)).mono ?_;rintro d H3 ⟨rfl,b⟩;(first|rw[KJ,we a] at b|rw[we a] at b);subst b;refine ur aB (cA v r I a4) (av p v) ?_;exact⟨_,n _ _ _ _,_,o,by rw[q] <;> rfl,by rw[m] <;> first|(simp only[jA];done)|(simp only[jA];rfl)|rfl⟩
  have p0:(uk=0)=False:=aI K;have m:T=[]:=e1.trans (aC K);by_cases h1:uk=1
  ·have p1:(uk=1)=True:=aG h1
   have q:R=some P:=V.trans ((aC K).trans (aD h1));have am:du P:=M _ q;refine tq (bQ r p0 p1) ?_;intro U Y O C;refine(((vQ ⟨P,[]⟩ f e _ _ _ _ a (VK H l e f Z [] _ _) (VL a Z _ _ _) (by unfold cH;exact jY _) (λx hx=>by cases hx) am).imp (ds:=[.ep f 0 3 0 0,.agg [i64 P,.val (.slice none 0 0)]]) ⟨fG _,F8 ⟨fG _,fO,trivial⟩,trivial⟩)).mono ?_;rintro d H3 ⟨rfl,b⟩;(first|rw[KJ,we a] at b|rw[we a] at b);subst b;refine ur aB (cA v r I a4) (av p v) ?_;exact⟨_,n _ _ _ _,_,o,by rw[q] <;> rfl,by rw[m] <;> first|(simp only[jA];done)|(simp only[jA];rfl)|rfl⟩
  ·have p1:(uk=1)=False:=aI h1
   have q:R=none:=V.trans ((aC K).trans (aC h1));refine ur aB (eP v r p0 p1 I a4) (av p v) ?_;exact⟨_,n _ _ _ _,_,o,by rw[q] <;> rfl,by rw[m] <;> rfl⟩
 have q1:=lF k j.length;have e1:T=Xu c:=by rw[hU];unfold Er;simp only;rw[lu (by omega)]
 have V:R=Y7 c:=by rw[hD];unfold CI;simp only;rw[lu (by omega)]
 have e3:DC ⟨j,c⟩ k=c.ar:=by unfold DC;simp only;rw[lu (by omega)]
 have W:(oq ⟨j,c⟩ k).1=c.pl:=by unfold oq;simp only;rw[lu (by omega)]
 rw[e3] at z;rw[W] at F;clear e3 W a2 hU hD;have J:T=tf c.ar++(if c.k=3 then I2 c.pl else if c.k=4 then [c.pl.lo] else []):=e1;have E:∀y∈tf c.ar,du y:=λy N=>B y (by rw[J];exact o8 _ N);have w:∀y∈oJ [] (tf c.ar),du y:=λy N=>(vd.1 N).elim (λh=>by cases h) (E y);refine tq (cw g1 g2 r a8 q1) ?_;intro U Y O C;refine((Iz c.ar f e (i64 0) (.val (.bool false)) [] _ a (VK H l e f Z _ _ _) (VL a Z _ _ _) z (λx hx=>by cases hx) E)).mono ?_;rintro d H3 ⟨rfl,b⟩;(first|rw[KJ,we a] at b|rw[we a] at b);subst b;by_cases h3:c.k=3
 ·have p3:(c.k=3)=True:=aG h3
  have m:T=tf c.ar++I2 c.pl:=by rw[J,aD h3]
  have q:R=MZ c.pl:=V.trans (aD h3);have A:du c.pl.lo:=by
   by_cases hz:c.pl.pr=[]
   ·exact M _ (by rw[q];exact aD hz)
   ·exact B _ (by rw[m];refine pL _ ?_;unfold I2;rw[aC hz];simp)
  refine tq (bQ g2 r p3) ?_;intro U Y O C;refine((vQ c.pl f e _ _ _ _ a (VK H l e f Z _ _ _) (VL a Z _ _ _) F w A)).mono ?_;rintro d H3 ⟨rfl,b⟩;(first|rw[KJ,we a] at b|rw[we a] at b);subst b;refine ur aB (cA v r I a4) (av p v) ?_;exact⟨_,n _ _ _ _,_,o,by rw[q] <;> rfl,by rw[m] <;> first|(simp only[jA];done)|(simp only[jA];rfl)|rfl⟩
 have p3:(c.k=3)=False:=aI h3;by_cases h4:c.k=4
 ·have p4:(c.k=4)=True:=aG h4
  have m:T=tf c.ar++[c.pl.lo]:=by rw[J,aC h3,aD h4]
  have q:R=none:=V.trans (aC h3);have A:du c.pl.lo:=B _ (by rw[m];simp);have a7:=KW w A;refine tq (bG g2 r p3 p4 I ab ac (av a9 @xo.eq_1)) ?_;intro U Y O C;refine⟨a7,?_⟩;refine nx ?_;refine ur aB (cA v r I a4) (av p v) ?_;exact⟨_,n _ _ _ _,_,o,by rw[q] <;> rfl,by rw[m] <;> first|(simp only[jA];done)|(simp only[jA];rfl)|rfl⟩
 have p4:(c.k=4)=False:=aI h4;have m:T=tf c.ar:=by rw[J,aC h3,aC h4,bz]
 have q:R=none:=V.trans (aC h3);refine ur aB (ej g2 v r p3 p4 I a4) (av p v) ?_;exact⟨_,n _ _ _ _,_,o,by rw[q] <;> rfl,by rw[m]⟩
theorem aC4 (b:bn)(p:Int)(i k:Nat)(H:aA)(hi:i<b.bl.length)(y:At (fD b) p i k)(hc:bu (fD b)<=1000000)(ok:VM b.bl[i] k):
  aN prog 240 [.agg (cu b),i64 p] H λd H'=>∃a,H a=none/\d=.agg (xo a (LH (i64 0) (CI b.bl[i] k)) (LG (.val (.bool false)) (CI b.bl[i] k)))/\H'=H.aU a (.map (SM (oJ [] (Er b.bl[i] k)))):=by
 have u:=λq=>Hf b p b.bl[i] k i y q hc;have f:=λq=>Rt b.bl[i] k q ok;have h:(b.bl.map dM)[i]?=some (dM b.bl[i]):=bZ hi;have B:=lm dM b.bl;obtain⟨x,E⟩:=oX b.bl[i];rw[<-E] at f h;rw[<-E];obtain⟨I,g⟩:=oX (LH (i64 0) (CI x k));obtain⟨G,c⟩:=oX (LG (.val (.bool false)) (CI x k));obtain⟨S,w⟩:=oX (oJ [] (Er x k));rw[<-g,<-c,<-w] at f;rw[<-g,<-c,<-w];have N:D.cells I=some [I]:=by rw[g];cases CI x k <;> rfl
 have M:D.cells G=some [G]:=by rw[c];cases CI x k <;> rfl
 clear E g c w ok;have F:=aX i;have v:=aZ i;have r:(i:Int)<(b.bl.length:Int):=by omega
 simp only[dM] at f h;unfold cu at *;refine dO func240 ntmps240 results240 λT R Q L=>?_;refine t0 ?_;intro U Y O C;intro P A o n;refine Y _ ?_;refine Yc 2 A n ?_;have t:=(bF.1 n).2;refine t0 ?_;intro U Y O C;refine(u _).qs (eP B h F v hi r) ?_;intro U Y O C;refine(f _).mono ?_;rintro d _ ⟨a,m,rfl,rfl⟩;have l:a≠o:=(bF.1 m).1;have s:=(bF.1 m).2;have K:∀(Z W:cY),((H.aU o Z).aU a W) o=some Z:=λZ W=>(aJ l.symm).trans (aK _ _ _);refine ur L (av @xo.eq_1 K) trivial ?_;refine⟨H.aU a (.map (SM S)),λx z j=>?_,a,s,rfl,rfl⟩;by_cases e:x=a
 ·rw[e,aK] at j
  rw[e,aJ l,aK];exact j
 ·rw[aJ e] at j
  have J:x≠o:=λe=>by rw[e,t] at j;cases j
  rw[aJ J,aJ e,aJ J];exact j
end Go.Proofs.YtffgfafbffdgaaaGreatDoor
