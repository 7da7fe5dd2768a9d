/- Lemmas and contracts of functions, several texts in one. -/
import Derived.Shelf.Sort.Plain
import Derived.Shelf.Slices.In.SortNone
import Derived.Test.YtffgfafbffdgaaaGreatDoorR27
set_option maxRecDepth 100000
set_option maxHeartbeats 4000000
set_option linter.all false
namespace Go.Proofs.YtffgfafbffdgaaaGreatDoor
open Go.RowKit
open Tryz
variable {l:List Int}{i b:Nat}
def FJ (acc:List Int) (x:Int):List Int:=if acc.getLast?=some x then acc else acc++[x]
def mC (l:List Int):List Int:=l.foldl FJ []
theorem pw (l:List Int)(x:Int):mC (l++[x])=FJ (mC l) x:=by unfold mC;rw[mX];rfl
theorem Kk (acc:List Int)(x:Int):(FJ acc x).getLast?=some x:=by
 unfold FJ;split
 ·assumption
 ·simp
theorem Kl (h:i<l.length):(mC (l.take (i+1))).getLast?=some l[i]:=by rw[bw h,pw,Kk]
theorem CC (h:i+1<l.length):mC (l.take (i+1+1))=if l[i]=l[i+1] then mC (l.take (i+1)) else mC (l.take (i+1))++[l[i+1]]:=by
 rw[bw h,pw];have a:=Kl (l:=l) (i:=i) (by omega);unfold FJ;rw[a];simp only[iJ]
theorem vM {x:Int}:x∈mC l↔x∈l:=by
 induction l using qI with
 |h0=>exact Iff.rfl
 |h1 l a f=>
  rw[pw,bB,bM,<-f]
  unfold FJ
  split
  ·rename_i h
   exact⟨.inl,λc=>c.elim id λe=>e▸wK h⟩
  ·rw[bB,bM]
theorem NJ (l:List Int):(mC l).length<=l.length:=by
 induction l using qI with
 |h0=>exact bh _
 |h1 l a c=>
  rw[pw,aV]
  unfold FJ
  split
  ·simp;omega
  ·rw[aV];simp;omega
theorem xg (h:l.Pairwise (·<=·)):(mC l).Pairwise (·<·):=by
 induction l using qI with
 |h0=>exact List.Pairwise.nil
 |h1 l a o=>
  rw[nj] at h
  have h1:=o h.1
  rw[pw]
  unfold FJ
  split
  ·exact h1
  ·rename_i f
   rw[nj]
   refine⟨h1,by simp,λx hx y k=>?_⟩
   rw[bM] at k
   subst k
   have m:=h.2.2 x (vM.1 hx) y (by simp)
   rcases Int.lt_or_eq_of_le m with h3|h3
   ·exact h3
   ·subst h3
    exfalso
    apply f
    obtain⟨q,g⟩:∃q,(mC l).getLast?=some q:=by
     cases e:(mC l).getLast? with
     |none=>rw[List.getLast?_eq_none_iff] at e;rw[e] at hx;cases hx
     |some q=>exact⟨q,rfl⟩
    have j:=wK g
    have n:=h.2.2 q (vM.1 j) x (by simp)
    obtain⟨p,c⟩:=List.getLast?_eq_some_iff.1 g
    rw[c,bB,bM] at hx
    rcases hx with hx|hx
    ·rw[c,nj] at h1
     have:=h1.2.2 x hx q (by simp)
     omega
    ·rw[g,hx]
theorem G8 (H:aA)(b:Nat)(x y:cY):(H.aU b x).aU b y=H.aU b y:=by
 funext c;by_cases e:c=b
 ·rw[e,aK,aK]
 ·rw[aJ e,aJ e,aJ e]
theorem BJ {H:aA}{x:cY}(h:H b=some x):H.aU b x=H:=by
 funext c;by_cases e:c=b
 ·rw[e,aK,h]
 ·rw[aJ e]
theorem xi (H:aA):aN prog 245 [.val (.slice none 0 0)] H λd H'=>d=.val (.slice none 0 0)/\H=H':=by
 refine dO func245 ntmps245 results245 λe c Q a=>?_;refine u0 a ?_;exact⟨_,aF _,by first|rfl|exact⟨rfl,rfl⟩⟩
theorem xj {H:aA}{o:Nat}{T:TypeId}(hb:H b=some (.row T o 1 (l.map iD)))(hl:l.length<=140737488351232):
  aN prog 245 [.os b o 1 0 l.length] H λd H'=>d=.os b o 1 0 (mC l).length/\∃c:List Int,H'=H.aU b (.row T o 1 (c.map iD))/\c.take (mC l).length=mC l:=by
 have u:=lm iD l;refine dO func245 ntmps245 results245 λw0 M Q aB=>?_;by_cases h2:l.length<2
 ·have q1:=nT ((l.length:Int)<2)
  have p:mC l=l:=by
   match l,h2 with
   |[],_=>rfl
   |[a],_=>rfl
  refine ur aB (av u q1) trivial ?_;exact⟨_,aF _,by rw[p],l,(BJ hb).symm,by rw[p,dI]⟩
 have q1:=nF ((l.length:Int)<2);refine tn (av u q1) ?_;refine aO (l.length - 1) (λi s=>s.df=[]/\s.fr 0=.os b o 1 0 l.length/\s.fr 3=i64 ((i+1:Nat):Int)/\s.H=H/\i+1<=l.length/\mC (l.take (i+1))=l.take (i+1)) ⟨rfl,rfl,rfl,rfl,by omega,by rw[bw (show 0<l.length by omega)] <;> rfl⟩ ?_;rintro i s hi ⟨V,I,J,hH,ap,r⟩;have a7:s.H b=some (.row T o 1 (l.map iD)):=by rw[hH];exact hb
 by_cases wZ:i+1<l.length
 case neg=>
  have q2:=nF (((i+1:Nat):Int)<(l.length:Int));rw[bK (by omega)] at r;refine ur aB (bQ I J q2) V ?_;exact⟨_,aF _,by rw[r],l,by rw[hH];exact(BJ hb).symm,by rw[r,dI]⟩
 have q2:=nT (((i+1:Nat):Int)<(l.length:Int));have hx:((i+1:Nat):Int).toNat=i+1:=aX _;have aa:=aX i;have P:(0:Int)<=((i+1:Nat):Int):=aZ _;have a4:=aZ i;have g:=bT wZ;have f:=bT (show i<l.length by omega);have a3:i<l.length:=by omega
 have q3:=lT i l.length;have w1:IntKind.i64.wrap (((i+1:Nat):Int) - 1)=(i:Int):=by rw[aP (by omega)];omega
 have w2:IntKind.i64.wrap (((i+1:Nat):Int)+1)=((i+1+1:Nat):Int):=by rw[aP (by omega)];omega
 have E:=CC wZ;by_cases he:l[i]=l[i+1]
 case neg=>
  have q4:(l[i+1]=l[i])=False:=aI λe=>he e.symm;rw[aC he] at E;refine tq (bQ I J q2) ?_;intro U Y O C;refine dE (λ_ _ _ _=>False) λU Y=>?_;refine dst (bG I J a7 g f hx aa (bG P a4 wZ a3 u q2 q3 (av q4 w1))) ?_;intro U Y O C;refine tn (av J w2) ?_;exact⟨by show i<l.length - 1;omega,V,I,rfl,hH,by omega,by rw[E,r,<-bw wZ]⟩
 have q4:(l[i+1]=l[i])=True:=aG he.symm;rw[aD he] at E;refine tq (bQ I J q2) ?_;intro U Y O C;refine dE (λ_ _ _ _=>False) λU Y=>?_;refine dst (bG I J a7 g f hx aa (bG P a4 wZ a3 u q2 q3 (av q4 w1))) ?_;intro U Y O C;have q5:=nT (((i+1:Nat):Int)<=(l.length:Int));refine tq (ej I J q2 hx P u q5) ?_;intro U Y O C;obtain⟨n2,al⟩:=oX (l.length - (i+1));rw[<-al];refine aO (n2 - 1) (λj s=>s.df=[]/\s.fr 0=.os b o 1 0 l.length/\s.fr 4=.os b o 1 (i+1) n2/\s.fr 5=i64 ((j+1:Nat):Int)/\j+1<=n2/\∃(c:List Int) (k:Nat),s.H=H.aU b (.row T o 1 (c.map iD))/\c.length=l.length/\s.fr 3=i64 k/\c.take k=mC (l.take (i+1+j+1))/\(∀m (h:m<l.length) (h':m<c.length),i+1+j<=m->c[m]=l[m])/\k<=i+1+j) ⟨V,I,rfl,rfl,by omega,l,i+1,by show s.H=_;rw[hH];exact(BJ hb).symm,rfl,J,by show _=mC (l.take (i+1+1));rw[E,r],λ_ _ _ _=>rfl,by omega⟩ ?_;rintro j s2 hj ⟨L,M,K,N,ar,c,k,B,p,g3,v,w,aw⟩;have A:s2.H b=some (.row T o 1 (c.map iD)):=by rw[B];exact aK _ _ _
 have z:=lm iD c;by_cases Z:j+1<n2
 case neg=>
  have q6:=nF (((j+1:Nat):Int)<(n2:Int));have ag:i+1+j+1=l.length:=by omega
  rw[ag,dI] at v;have a0:k=(mC l).length:=by rw[<-v,bX];omega
  have q7:=nT ((k:Int)<=(l.length:Int));have a2:=aX k;have S:=aZ k;have t:k<=c.length:=by omega
  refine ur aB (bG M g3 K N q6 q7 a2 (cw S A z t @tP)) L ?_;have am:(mC l).length<=c.length:=by have:=NJ l;omega
  exact⟨_,aF _,by rw[a0],mC l,by rw[B,G8,<-iK,v],dI⟩
 have q6:=nT (((j+1:Nat):Int)<(n2:Int));have a9:i+1+j+1<l.length:=by omega
 have g:(c.map iD)[i+1+(j+1)]?=some [.val (.int .i64 c[i+1+j+1])]:=bT (show i+1+j+1<c.length by omega);have f:=bT (show i+1+j<c.length by omega);rw[w _ a9 (by omega) (by omega)] at g;rw[w _ (show i+1+j<l.length by omega) (by omega) (by omega)] at f;have a1:((j+1:Nat):Int).toNat=j+1:=aX _;have a6:=aX j;have R:(0:Int)<=((j+1:Nat):Int):=aZ _;have a5:=aZ j;have q7:=nT ((j:Int)<(n2:Int));have a8:j<n2:=by omega
 have w3:IntKind.i64.wrap (((j+1:Nat):Int) - 1)=(j:Int):=by rw[aP (by omega)];omega
 have w4:IntKind.i64.wrap (((j+1:Nat):Int)+1)=((j+1+1:Nat):Int):=by rw[aP (by omega)];omega
 have w5:=wS k;have n:=CC (l:=l) (i:=i+1+j) a9;obtain⟨x,ab⟩:=oX (l[i+1+j]);obtain⟨y,ac⟩:=oX (l[i+1+j+1]);rw[<-ac] at g;rw[<-ab] at f;rw[<-ab,<-ac] at n;by_cases G:x=y
 ·have q8:(y=x)=True:=aG G.symm
  rw[aD G] at n;refine tq (cw M g3 K N q6) ?_;intro U Y O C;refine dE (λ_ _ _ _=>False) λU Y=>?_;refine dst (bG K N A g f a1 a6 (bG R a5 Z a8 z q6 q7 (av q8 w3))) ?_;intro U Y O C;refine tn (av N w4) ?_;exact⟨by show j<n2 - 1;omega,L,M,K,rfl,by omega,c,k,B,p,g3,by rw[show i+1+(j+1)+1=i+1+j+1+1 by omega,n];exact v,λm h h' hm=>w m h h' (by omega),by omega⟩
 ·have q8:(y=x)=False:=aI λe=>G e.symm
  rw[aC G] at n;have a2:=aX k;have S:=aZ k;have a0:k<l.length:=by omega
  have ae:=lT k l.length;have t:k<c.length:=by omega
  have ak:=bT t;refine tq (cw M g3 K N q6) ?_;intro U Y O C;refine dE (λ_ _ _ _=>False) λU Y=>?_;refine dst (bG K N A g f a1 a6 (bG R a5 Z a8 z q6 q7 (av q8 w3))) ?_;intro U Y O C;refine tq (bG M g3 K N q6 q7 q8 (bG w4 w5 A g f ak a1 (bG R a2 S a0 ae t Z z))) ?_;intro U Y O C;have ad:(List.map iD c).set k [.val (.int .i64 y)]=(c.set k y).map iD:=by rw[List.map_set];rfl
  refine⟨by show j<n2 - 1;omega,L,M,K,rfl,by omega,c.set k y,k+1,by show s2.H.aU b _=_;rw[B,G8,<-ad],by rw[mA];exact p,rfl,?_,λm h h' hm=>?_,by omega⟩
  ·rw[show i+1+(j+1)+1=i+1+j+1+1 by omega,n,bw (by rw[mA];exact t),zG (bh _),v,List.getElem_set_self]
  ·rw[List.getElem_set_ne (by omega)]
   exact w m h (by rw[mA] at h';exact h') (by omega)
end Go.Proofs.YtffgfafbffdgaaaGreatDoor
namespace Go.Proofs.YtffgfafbffdgaaaGreatDoor
open Go.RowKit Go.Sort
end Go.Proofs.YtffgfafbffdgaaaGreatDoor
namespace Go.Proofs.YtffgfafbffdgaaaGreatDoor
open Go.RowKit
open Tryz
variable {G:Gr}{i k n a id c7 c8 c bl:Nat}{b:bn}{s:St}{H Hs:aA}{EL LL:List (List D)}{fl:Nat->Nat}
def IQ (G:Gr) (l:List Int):List Int:=l.flatMap λ(t:Int)=>if 0<=t/\t<G.length then [(dG G t.toNat:Int)] else []
theorem QH (G:Gr)(l:List Int)(t:Int):IQ G (l++[t])=IQ G l++(if 0<=t/\t<G.length then [(dG G t.toNat:Int)] else []):=by unfold IQ;rw[gb];simp
theorem UI (G:Gr)(l:List Int):(IQ G l).length<=l.length:=by
 induction l with
 |nil=>simp [IQ]
 |cons t l e=>
  have:IQ G (t::l)=(if 0<=t/\t<G.length then [(dG G t.toNat:Int)] else [])++IQ G l:=rfl
  rw[this,aV,bx]
  split <;> simp <;> omega
theorem Ss {l:List Int}{q:Int}:q∈IQ G l↔∃t∈l,0<=t/\t<G.length/\q=dG G t.toNat:=by
 unfold IQ;rw[la];constructor
 ·rintro⟨t,f,h⟩
  split at h
  ·rename_i e
   exact⟨t,f,e.1,e.2,by simpa using h⟩
  ·cases h
 ·rintro⟨t,f,e,g,rfl⟩
  exact⟨t,f,by rw[aD ⟨e,g⟩];simp⟩
theorem XA {p:Int}(h:At G p i k)(hi:i<G.length)(hk:k<G[i].1):Gf G p=[p+1]:=by
 refine qK (A8 G p) (by simp) λq=>?_;rw[yl,Nv h,bM];obtain⟨_,_,f⟩:=h;constructor
 ·rintro⟨_,⟨_,e⟩|⟨e,_⟩⟩ <;> omega
 ·intro e;exact⟨hi,.inl ⟨hk,by omega⟩⟩
theorem TF {p:Int}(h:At G p i k)(hi:i<G.length)(hk:k=G[i].1):mC (dL (IQ G G[i].2))=Gf G p:=by
 refine qK (xg (vr _)) (A8 G p) λq=>?_;rw[vM,sx,Ss,yl,Nv h];constructor
 ·rintro h;exact⟨hi,.inr ⟨hk,h⟩⟩
 ·rintro⟨_,⟨f,_⟩|⟨_,e⟩⟩
  ·omega
  ·exact e
theorem ZJ (b:kz)(p:Int)(i k:Nat)(H:aA)(M:At b.g p i k)(hc:bu b.g<=1000000)(ap:∀x∈b.bl,x.tg.length<=1000000):aN prog 175 [.agg (lK b),.seq 1 ((E8 b.g (b.bl.length+1)).map iD),.agg [i64 i,i64 k]] H λd H'=>d=.seq 1 ((Gf b.g p).map iD)/\H=H':=by
 refine aq (K:=λd=>d=.seq 1 ((Gf b.g p).map iD)) ?_;have N:=wj b;have b5:=pq hc;have a4:(List.map iD (E8 b.g (b.bl.length+1))).length=b.bl.length+1:=by rw[aS,ng]
 obtain⟨v,hk,b4⟩:=YR.1 M;have a3:i<b.g.length:=by rw[b.oy];exact v
 have a8:(i:Int)<b.bl.length:=by omega
 have aa:(i:Int)<((b.bl.length+1:Nat):Int):=by omega
 have hx:=aX i;have a1:=aZ i;have P:=vD v;have am:=qF hc v;have aw:=ap b.bl[i] (ao v);have ag:=vv b.g (show i<b.bl.length+1 by omega);have R:=XA M a3;have S:=TF M a3;rw[b.F5 v] at R S;obtain⟨x,b0⟩:=oX b.bl[i];rw[<-b0] at P hk am aw R S;simp only[xC] at P;refine dO func175 ntmps175 results175 λw0 g0 Q aB=>?_;refine tq @lK.eq_1 ?_;intro U Y O C;intro c3 ac c5 a2;have a5:c3≠c5:=lj (aK _ _ _) a2;have a9:H c5=none:=(bF.1 a2).2;refine Y _ ?_;refine dZ 3 rfl ((aJ a5).trans (aK _ _ _)) rfl ?_;refine dZ 5 rfl ((bL a5.symm).trans (aK _ _ _)) rfl ?_;refine lB H (λx z hz=>?_) ?_
 ·have B:x≠c3:=λe=>by rw[e,ac] at hz;cases hz
  have e2:x≠c5:=λe=>by rw[e,a9] at hz;cases hz
  show((((H.aU c3 _).aU c5 _).del c3).del c5) x=_;rw[bL e2,bL B,aJ e2,aJ B];exact hz
 simp only[St.ku,List.drop];refine tq (eP P hx a1 v a8 N) ?_;intro U Y O C;intro c7 ad;refine Y _ ?_;refine cm 7 ad ?_;by_cases al:k<x.st.length
 ·have q1:=lT k x.st.length
  have w1:IntKind.i64.wrap ((dG b.g i:Int)+(k:Int))=p:=by rw[aP (by omega)];omega
  have w2:IntKind.i64.wrap (p+1)=p+1:=by rw[aP (by omega)]
  have e:=R al;refine tq q1 ?_;intro U Y O C;refine dE (λ_ _ _ _=>False) λU Y=>?_;refine dst (ej ag hx a1 aa a4 w1 w2) ?_;intro U Y O C;refine u0 aB ?_;exact⟨_,aF _,aF _,_,aL (aF _),by rw[e] <;> rfl⟩
 have q1:=lF k x.st.length;have e:=S (by show k=x.st.length;omega);have J:=lm iD x.tg;refine tn (av q1 J) ?_;refine aO x.tg.length (λj s=>s.df=[]/\s.fr 1=.seq 1 ((E8 b.g (b.bl.length+1)).map iD)/\s.fr 3=.rp (lK b)/\s.fr 35=.seq 1 (x.tg.map iD)/\s.fr 36=i64 x.tg.length/\s.fr 37=i64 j/\H.le s.H/\∃ob,Gl H 3 1 ((IQ b.g (x.tg.take j)).map iD) (s.fr 8) s.H ob) ⟨rfl,rfl,rfl,rfl,rfl,rfl,aF _,none,eB _ _ _ _⟩ ?_;rintro j s hj ⟨y,f1,V,u,l,w,aM,ob,hg⟩;simp only[lK] at V;have T:=aX j;have L:=aZ j;have a7:=UI b.g (x.tg.take j);rw[bX] at a7;by_cases f:j<x.tg.length
 case neg=>
  have q2:=lF j x.tg.length;rw[bK (by omega)] at hg a7;refine tq (bQ l w q2) ?_;intro U Y O C;rcases hg with⟨_,B,e2⟩|⟨c,o,e0,B,e2,e3⟩
  ·have r:IQ b.g x.tg=[]:=by simpa using e2
   rw[B];refine(vt _).qs B ?_;intro U Y O C;refine(xi _).q ?_;refine ur aB trivial y ?_;exact⟨_,aF _,aM,.seq 1 [],iq,by rw[<-e,r];simp [dL,mC]⟩
  ·rw[aS] at B
   rw[B];refine(vu e3 (by omega)).mono ?_;rintro d _ ⟨rfl,rfl⟩;refine tq B ?_;intro U Y O C;have h5:((s.H.aU c (.row 3 o 1 ((dL (IQ b.g x.tg)).map iD))) c)=some (.row 3 o 1 ((dL (IQ b.g x.tg)).map iD)):=aK _ _ _;have h6:=xj h5 (by rw[dw];omega);rw[dw] at h6;refine h6.mono ?_;rintro d _ ⟨rfl,a0,rfl,Z⟩;refine ur aB trivial y ?_;have A:H.le (s.H.aU c (.row 3 o 1 (a0.map iD))):=aQ aM e2;have b2:(mC (dL (IQ b.g x.tg))).length<=a0.length:=by have:=ai List.length Z;rw[bX] at this;omega
   exact⟨_,aF _,A,_,nY (k:=0) A (aK _ _ _) e2 (by rw[aS];omega),by rw[dj,<-iK,Z,e]⟩
 have q2:=lT j x.tg.length;have E:=bT f;have w4:=wS j;have a6:=bw f;obtain⟨t,ar⟩:=oX x.tg[j];rw[<-ar] at E a6;have m:=QH b.g (x.tg.take j) t;rw[<-a6,b.oy] at m;by_cases r:0<=t
 case neg=>
  have q3:(0<=t)=False:=aI r;rw[aC λh=>r h.1,bz] at m;refine tn (bG u l w q2 q3 E T (cA L f J w4)) ?_;exact⟨f,y,f1,V,u,l,rfl,aM,ob,by rw[m];exact hg⟩
 have q3:(0<=t)=True:=aG r;by_cases I:t<b.bl.length
 case neg=>
  have q4:(t<(b.bl.length:Int))=False:=aI I;rw[aC λh=>I h.2,bz] at m;refine tn (bG V u l w q2 q3 q4 (ej E T L f J N w4)) ?_;exact⟨f,y,f1,V,u,l,rfl,aM,ob,by rw[m];exact hg⟩
 have q4:(t<(b.bl.length:Int))=True:=aG I;rw[aD ⟨r,I⟩] at m;have ak:=vv b.g (show t.toNat<b.bl.length+1 by omega);have ab:t<((b.bl.length+1:Nat):Int):=by omega
 refine tq (bG f1 V u l w q2 q3 (bG q4 E T L f J N (cA ak r ab a4))) ?_;intro U Y O C;refine ax (e:=3) fk rfl fk rfl yv rfl (by decide) aM hg (new:=[iD (dG b.g t.toNat:Int)]) (by exact⟨rfl,rfl⟩) (by rw[aS];show(_+1) * 8<=_;omega) λd H6 b1 ae A b3=>?_;refine tq (av w w4) ?_;intro U Y O C;refine⟨f,y,f1,V,u,l,rfl,A,b1,?_⟩;rw[m,bI];exact ae
def uJ (G:Gr) (i n:Nat):List (Nat×Nat×Nat):=(List.range n).map λk=>(dG G i+k,i,k)
def qR (G:Gr) (n:Nat):List (Nat×Nat×Nat):=(List.range n).flatMap λi=>uJ G i ((G.getD i (0,[])).1+1)
theorem Bx (G:Gr)(i n:Nat):uJ G i (n+1)=uJ G i n++[(dG G i+n,i,n)]:=by unfold uJ;rw[rG,bI];rfl
theorem wi (h:n<G.length):qR G (n+1)=qR G n++uJ G n (G[n].1+1):=by
 unfold qR;rw[rG,gb];simp [gZ,az h]
theorem C9 {b:Nat}(h:a<=b):∃t,List.range b=List.range a++t:=by
 obtain⟨k,rfl⟩:=Nat.exists_eq_add_of_le h;exact⟨_,List.range_add⟩
theorem My (G:Gr)(i:Nat){b:Nat}(h:a<=b):uJ G i a<+:uJ G i b:=by
 obtain⟨t,e⟩:=C9 h;unfold uJ;rw[e,bI];exact⟨_,rfl⟩
theorem Mo (G:Gr){b:Nat}(h:a<=b):qR G a<+:qR G b:=by
 obtain⟨t,e⟩:=C9 h;unfold qR;rw[e,gb];exact⟨_,rfl⟩
theorem RR (h:i<G.length)(hk:k<=G[i].1+1):qR G i++uJ G i k<+:qR G G.length:=by
 refine List.IsPrefix.trans ?_ (Mo G (show i+1<=G.length by omega));rw[wi h];exact(List.prefix_append_right_inj _).2 (My G i hk)
def ptD (x:Nat×Nat×Nat):List D:=[i64 x.1,.agg [i64 x.2.1,i64 x.2.2]]
theorem Vb (b:kz)(hc:bu b.g<=1000000):BY prog 250 [.rp (lK b)] ptD (qR b.g b.g.length) λ_=>True:=by
 have A:=wj b;have a0:=pq hc;refine yg _ func250 rfl rfl ntmps250 results250 (by simp) λl J Jx H w0 r Q dC hJ hY aB=>?_;refine tn (bQ @lK.eq_1 @yD.eq_1 A) ?_;refine aO b.bl.length (λi s=>s.df=[]/\s.fr 0=yD l/\s.fr 3=i64 (dG b.g i)/\s.fr 8=.seq 7 (b.bl.map xC)/\s.fr 9=i64 b.bl.length/\s.fr 10=i64 i/\J (qR b.g i) s.H) ⟨rfl,rfl,rfl,rfl,rfl,rfl,hJ⟩ ?_;rintro i s hi ⟨B,f0,f3,f8,L,p,hj⟩;have hx:=aX i;have N:=aZ i;by_cases f:i<b.bl.length
 case neg=>
  have Z:=lF i b.bl.length;have e:i=b.g.length:=by rw[b.oy];omega
  subst e;refine tq (bQ L p Z) ?_;intro U Y O C;exact aB _ _ (.inl rfl) B (.inl hj)
 have Z:=lT i b.bl.length;have K:(i:Int)<b.bl.length:=by omega
 have u:=vD f;have T:=qF hc f;have S:=sI b f;have E:i<b.g.length:=by rw[b.oy];exact f
 have o:=λk=>RR (G:=b.g) (i:=i) (k:=k) E;have m:=wi E;rw[b.F5 f] at o m;obtain⟨x,V⟩:=oX b.bl[i];rw[<-V] at u T S o m;simp only at o m;simp only[xC] at u;have w1:IntKind.i64.wrap ((x.st.length:Int)+1)=((x.st.length+1:Nat):Int):=by rw[aP (by omega)];omega
 have w3:=wS i;refine tq (bG f8 L p Z u hx N (bQ f K A)) ?_;intro U Y O C;intro c5 P;refine Y _ ?_;refine cm 5 P ?_;refine tn w1 ?_;refine aO (x.st.length+1) (λk s=>s.df=[]/\s.fr 0=yD l/\s.fr 3=i64 (dG b.g i+k:Nat)/\s.fr 4=i64 i/\s.fr 8=.seq 7 (b.bl.map xC)/\s.fr 9=i64 b.bl.length/\s.fr 10=i64 i/\s.fr 18=i64 (x.st.length+1:Nat)/\s.fr 19=i64 k/\J (qR b.g i++uJ b.g i k) s.H) ⟨B,f0,f3,rfl,f8,L,p,rfl,rfl,by unfold uJ;rw[List.range_zero,fw,bz];exact hj⟩ ?_;rintro k s2 hk ⟨t,r,w,z,g8,g9,y,h,j,M⟩;by_cases R:k<x.st.length+1
 case neg=>
  have q2:=nF ((k:Int)<((x.st.length+1:Nat):Int));have e:k=x.st.length+1:=by omega
  subst e;rw[<-m] at M;have e2:dG b.g i+(x.st.length+1)=dG b.g (i+1):=by omega
  rw[e2] at w;refine tn (cw y h j q2 w3) ?_;exact⟨f,t,r,w,g8,g9,rfl,M⟩
 have q2:=nT ((k:Int)<((x.st.length+1:Nat):Int));have w4:IntKind.i64.wrap (((dG b.g i+k:Nat):Int)+1)=((dG b.g i+(k+1):Nat):Int):=by rw[aP (by omega)];omega
 have w5:=wS k;have I:=o (k+1) (by omega);rw[Bx,<-bE] at I;(iterate 11 (refine tk (eP r w z h j q2) ?_;intro U Y O C));refine x9 (5) (by kernel_rfl) ?_;simp (maxSteps:=4000000) only[vX,vB,vT,vZ,ij,fh,Fp,yk,AX,gV,fE,fj,↓iR,yb,cU,DJ,ze,By,oi,od,pn,po,ki,j8,kh,ic,D.nilPtr,D.iM,D.iF,fH,Bj,CE,wX,gy,jw,fieldsOf,gU,B6,B7,B8,B9,sL,BT,D.cells,jx,DE,DB,pv,eK,eH,B3,BR,jd,EC,rS,Be,gP,TD.gX,TD.agg,Eo,rU,oe,FI,nZ,pY,pX,Ba,B5,mF,pZ,dR,eT,Value.oneCell',iX,iV,gp,reduceCtorEq,kY,iZ,dN,dY,↓reduceIte,Nat.reduceEqDiff,Int.reduceLE,Int.reduceLT,Int.reduceNeg,Int.reduceToNat,Nat.reduceAdd,Nat.reduceMul,Nat.reduceLeDiff,Nat.reduceMod,Nat.reduceSub,Int.reduceEq,Int.reduceNe,Int.reduceAdd,Int.reduceSub,Int.reduceMul,iW,Gz,r,w,z,h,j,i64];refine lA rfl (oI (qR b.g i++uJ b.g i k) (dG b.g i+k,i,k) rfl rfl rfl (by simp [qP]) hY I M rfl (λH' v=>?_) λH' v=>?_)
 ·refine tn (ej r w z h j w4 w5) ?_
  exact⟨R,t,r,rfl,z,g8,g9,y,h,rfl,by rw[Bx,<-bE];exact v⟩
 ·refine tq (cw r w z h j) ?_;intro U Y O C
  exact aB _ _ (.inr rfl) t (.inr ⟨_,v⟩)
theorem YN (b:kz)(H:aA):aN prog 174 [.agg (lK b)] H λd H'=>d=.fn 250 [.rp (lK b)]/\H=H':=by
 refine dO func174 ntmps174 results174 λj h Q f=>?_;refine tq @lK.eq_1 ?_;intro U Y O C;intro g e;refine Y _ ?_;refine cm 1 e ?_;refine u0 f ?_;exact⟨_,aF _,rfl,rfl⟩
theorem Ov {x:Nat×Nat×Nat}:x∈qR G n↔x.2.1<n/\x.2.2<=(G.getD x.2.1 (0,[])).1/\x.1=dG G x.2.1+x.2.2:=by
 unfold qR uJ;rw[la];constructor
 ·rintro⟨i,e,h⟩
  obtain⟨k,j,rfl⟩:=cD.1 h;rw[ib] at e j;exact⟨e,by simp only;omega,rfl⟩
 ·rintro⟨f,l,g⟩
  exact⟨x.2.1,ib.2 f,cD.2 ⟨x.2.2,ib.2 (by omega),by rw[<-g]⟩⟩
noncomputable def vO (G:Gr) (l:List (Nat×Nat×Nat)):List (Int×Int):=l.flatMap λx=>(Gf G x.1).map λq=>((x.1:Int),q)
theorem LF (G:Gr)(l:List (Nat×Nat×Nat))(x:Nat×Nat×Nat):vO G (l++[x])=vO G l++(Gf G x.1).map λq=>((x.1:Int),q):=by unfold vO;rw[gb];simp
theorem Mx (G:Gr)(i n:Nat):(uJ G i n).map (·.1)=(List.range n).map λk=>dG G i+k:=by unfold uJ;rw[gL];rfl
theorem zc (G:Gr):∀n,n<=G.length->(qR G n).map (·.1)=List.range (dG G n)
 |0,_=>rfl
 |n+1,h=>by
  rw[wi (by omega),bI,zc G n (by omega),Mx,oB (by omega),rK];exact List.range_add.symm
theorem Nh (G:Gr):vO G (qR G G.length)=oh G:=by
 have e:=zc G G.length (bh _);rw[lJ (bh _)] at e;unfold vO oh my;rw[<-e,gL,zR];rfl
theorem Ni (G:Gr)(l:List (Nat×Nat×Nat)):(vO G l).length<=l.length * bu G:=by
 induction l with
 |nil=>simp [vO]
 |cons x l e=>
  have:vO G (x::l)=((Gf G x.1).map λq=>((x.1:Int),q))++vO G l:=rfl
  rw[this,aV,aS,bx,kH]
  have:=EF G x.1
  omega
theorem Mn (G:Gr):(qR G G.length).length=bu G:=by
 have e:=ai List.length (zc G G.length (bh _));rwa[aS,tL,lJ (bh _)] at e
theorem Va {b:kz}{x:Nat×Nat×Nat}(h:x∈qR b.g b.g.length):At b.g x.1 x.2.1 x.2.2:=by
 obtain⟨e,f,j⟩:=Ov.1 h;refine⟨e,?_,by omega⟩;rw[gZ,az e] at f;exact f
def EdI (H:aA) (c:Nat) (l:List (Int×Int)) (e:aA):Prop:=H.le e/\∃x f,e c=some (.row 23 0 1 [[x]])/\Gl H 60 2 (l.map pD) x e f/\f≠some c
theorem Rs (b:kz)(H:aA)(hc:bu b.g<=1000000)(b1:∀x∈b.bl,x.tg.length<=1000000):aN prog 95 [.agg (lK b)] H λd H'=>d=.seq 2 ((oh b.g).map pD)/\H=H':=by
 refine aq (K:=λd=>d=.seq 2 ((oh b.g).map pD)) ?_;refine lH _ _ func95 rfl rfl ntmps95 results95 (by simp) λw0 g0 Q aB=>?_;refine tq @lK.eq_1 ?_;intro U Y O C;intro c1 am;refine Y _ ?_;refine cm 1 am ?_;refine t0 ?_;intro U Y O C;intro u Z;refine Y _ ?_;refine t0 ?_;intro U Y O C;refine(GU b _ hc).qt ?_;intro U Y O C;intro c4 ap;refine Y _ ?_;refine cm 4 ap ?_;refine t0 ?_;intro U Y O C;refine(YN b _).qt ?_;intro U Y O C;have S:H.le (H.aU u (.row 23 0 1 [[.val (.slice none 0 0)]])):=aQ (aF _) Z;refine iz (λs=>s.df=[]/\s.fr 1=.rp (lK b)/\s.fr 3=.ep u 0 1 0 0/\s.fr 4=.rp [.seq 1 ((E8 b.g (b.bl.length+1)).map iD)]/\s.fr 12=.fn 250 [.rp (lK b)]/\H.le s.H/\EdI H.qb u [] s.H) ⟨rfl,rfl,rfl,rfl,rfl,S,iL (uV H) S,_,none,aK _ _ _,eB _ _ _ _,by simp⟩ ?_;rintro s ⟨a0,f1,f3,f4,ac,N,ak⟩;simp only[lK] at f1;refine kZ rfl (Vb b hc) ac (λ_ _=>trivial) (by simp) (λ_=>rfl) (λf=>EdI H.qb u (vO b.g f)) (λ_ _ _=>False) ?_ ?_ ?_ ?_ ?_ ?_
 ·rintro f H1 H2 hr ⟨p,x,ob,h2,h3,h4⟩
  refine⟨gO (jK H) p hr,x,ob,hr _ _ h2 (by simp),?_,h4⟩;rcases h3 with h3|⟨c,o,v,w,m,g4⟩
  ·exact .inl h3
  ·exact .inr ⟨c,o,v,w,m,hr _ _ g4 (by simp)⟩
 ·exact λ_ _ _ _ _ h=>h
 ·exact ak
 ·rintro l w1 f x z o b8 P ⟨v,xs,ob,w,m,g4⟩ a2 hl
  rw[ptD,T4];refine tq (cw cR cO cE au a0) ?_;intro U Y O C;intro b9 A;refine Y _ ?_;simp only[cF];refine⟨rfl,gE.new (jU _) A,λw2 y ba=>?_⟩;have n5:∀c x,z c=some x->c≠b9:=λc x h e=>by rw[e,A] at h;cases h
  have nl:∀c t o sz T,z c=some (.row t o sz T)->c≠l:=λc t o sz T h e=>by rw[e,hl] at h;cases h
  have n3:=nl _ _ _ _ _ w;have l5:=n5 _ _ hl;have b3:x∈qR b.g b.g.length:=P.subset (by simp);have be:f.length+1<=bu b.g:=by
   have p:=P.length_le;rw[Mn,aV,eE] at p;exact p
  have bc:=Ni b.g f;have b7:f.length * bu b.g<=1000000 * 1000000:=kD (by omega) hc;have a4:=LF b.g f x;refine dZ 6 rfl (b:=b9) (by simp only[iN,cO,fS];rw[aJ (Ne.symm l5),aK]) rfl ?_;simp only[St.ku,iN,cO,fS,fC,au,eL,kC (Ne.symm l5),kX,iy A,List.drop];have ab:=λ(x:cY) (hx:∀o,x≠ .obj o)=>oC (H:=z) (b:=b9) (l:=l) (y:=y) hx;refine tq (eP f1 f4 cR cO cE au) ?_;intro U Y O C;refine(ZJ b x.1 x.2.1 x.2.2 _ (Va b3) hc b1).q ?_;have b0:=EF b.g x.1;have B:(List.map iD (Gf b.g x.1)).length=(Gf b.g x.1).length:=aS _;obtain⟨L,hL⟩:=oX (Gf b.g x.1);rw[<-hL] at b0 B a4 ⊢;refine tq B ?_;intro U Y O C;have ag:EdI H.qb u (vO b.g f) (z.aU l (.obj y)):=by
   refine⟨gO (jK H) v (kA hl),xs,ob,(aJ n3).trans w,?_,g4⟩;exact m.cM λc h=>aJ λe=>by
    rcases m with m|⟨c',o',p,_,_,h2⟩
    ·rw[m.1] at h;cases h
    ·rw[p] at h;injection h with h;rw[h,e,hl] at h2;cases h2
  refine aO L.length (λj s=>s.df=[]/\s.fr 3=.ep u 0 1 0 0/\s.fr 5=i64 x.1/\s.fr 18=.seq 1 (L.map iD)/\s.fr 19=i64 L.length/\s.fr 20=i64 j/\gE ((z.aU b9 (.row 257 0 2 [[i64 x.2.1,i64 x.2.2]])).aU l (.obj y)) s.H/\EdI H.qb u (vO b.g f++(L.take j).map λq=>((x.1:Int),q)) s.H) ⟨rfl,f3,rfl,rfl,rfl,rfl,ab _ (by simp),by rw[gK,fw,bz];exact ag⟩ ?_;rintro j s2 hj ⟨V,k3,k5,a5,E,I,a8,a6,b6,b4,J,kg,a7⟩;have b2:=aX j;have ad:=aZ j;by_cases r:j<L.length
  case neg=>
   have q2:=lF j L.length;rw[bK (by omega),<-a4] at kg;refine tn (bQ E I q2) ?_;exact⟨V,a8,a6,b6,b4,J,kg,a7⟩
  have q2:=lT j L.length;have aw:=bT r;have w4:=wS j;refine tq (bG k3 k5 a5 E I q2 B (cw aw b2 ad r J)) ?_;intro U Y O C;refine ax (e:=60) qm rfl qm rfl Bi rfl (by decide) a6 kg (new:=[pD ((x.1:Int),L[j])]) (by exact⟨rfl,rfl⟩) (by rw[aS,aV,aS,bX];show(_+1) * 16<=_;omega) λd H6 b5 a1 aa a3=>?_;have q3:=a3 _ _ J a7;have a9:=q3.1;have ar:∃c o n,d=.os c o 2 0 n:=by
   rcases a1 with⟨_,_,h⟩|⟨c,o,_,h,_⟩
   ·simp at h
   ·exact⟨c,o,_,h⟩
  obtain⟨c',o',n',rfl⟩:=ar;have e:(vO b.g f++(L.take (j+1)).map λq=>((x.1:Int),q)).map pD=(vO b.g f++(L.take j).map λq=>((x.1:Int),q)).map pD++[pD ((x.1:Int),L[j])]:=by rw[bw r];simp only[bI,cC,fw,bE]
  refine eV a9 ?_;refine nx ?_;refine tq (av I w4) ?_;intro U Y O C;refine⟨r,V,k3,k5,a5,E,rfl,(qD a8 kg a3).row a9 (by simp),aQ aa (jL Z),_,b5,aK _ _ _,?_,q3.2⟩;rw[e];exact a1.cM λc h=>aJ λe=>q3.2 (by rw[h,e])
 ·rintro z M ⟨v,xs,ob,w,m,g4⟩ a2 hD ae
  rw[mK,cp,cF,a0];have bb:u≠M:=λe=>by rw[e,hD] at w;cases w
  rw[Nh] at m;have v:=lO v N a2;have m:=Di m v;refine tq (av f3 w) ?_;intro U Y O C;refine aB _ _ (.inr rfl) ?_ ?_
  ·refine eG f3 ?_
   exact Ql hD
  ·refine eG f3 ?_
   rw[sP];have al:∀c,ob=some c->c≠M:=λc h e=>by
    rcases m with⟨g,_⟩|⟨c2,o2,p,_,_,h4⟩
    ·rw[g] at h;cases h
    ·rw[h] at p;injection p with p;rw[<-p,e,hD] at h4;cases h4
   have R:H.le (z.aU M .hid):=aQ v (iY N ae);exact⟨_,aF _,R,_,da R (m.cM λc h=>aJ (al c h)),rfl⟩
 ·exact λ_ _ _ _ _ _ h=>h.elim
structure Gn (b:bn):Prop where
 cn:bu (fD b)<=130
 us:(sV b).length<=400000
 ef:∀(p:Int) (i k:Nat) (h:i<b.bl.length),At (fD b) p i k->VM b.bl[i] k
 ta:∀x∈b.bl,x.tm.tg.length<=1000000
theorem YQ (b:bn)(ok:Gn b)(p:Int)(h0:0<=p)(hp:p<bu (fD b))(H:aA):
  aN prog 240 [.agg (cu b),i64 p] H λd H'=>∃f,H f=none/\d=.agg (xo f (LH (i64 0) (yU b p)) (LG (.val (.bool false)) (yU b p)))/\H'=H.aU f (.map (SM (oJ [] (Ef b p)))):=by
 obtain⟨x,k,g⟩:=DD h0 hp;rw[HH g,Q1 g];obtain⟨i,h,e,rfl⟩:=g;exact aC4 b p i k H h e (by have:=ok.cn;omega) (ok.ef p i k h e)
theorem Ng (b:bn)(ok:Gn b)(H:aA):aN prog 95 [.agg (cu b)] H λd H'=>d=.seq 2 ((oh (fD b)).map pD)/\H=H':=by
 have h:=Rs (gB b) H (by rw[F3];have:=ok.cn;omega) (by
  intro x e;obtain⟨y,f,rfl⟩:=cD.1 e;exact ok.ta y f)
 rwa[Dh,F3] at h
theorem NL (b:bn)(ok:Gn b)(H:aA):aN prog 96 [.agg (cu b)] H λd H'=>d=i64 (bu (fD b))/\H=H':=by
 have h:=PV (gB b) H (by rw[F3];have:=ok.cn;omega);rwa[Dh,F3] at h
def Qi (E:List (Int×Int)):Bool->Int->List Int:=λk x=>if k=true then cT E x else []
theorem M0 (E:List (Int×Int))(e:Int×Int):Qi (E++[e])=BV (Qi E) true e.2 (Qi E true e.2++[e.1]):=by
 funext k x;cases k
 ·rw[jO (by simp)];rfl
 ·by_cases f:x=e.2
  ·subst f;rw[lW];simp [Qi,cT]
  ·rw[jO (by simp [f])]
   have:¬e.2=x:=λe=>f e.symm;simp [Qi,cT,this]
def KI (e:Bool->Int->Option D) (n:Nat):List (List D):=(my n).map λj=>[(e true j).getD (.val (.slice none 0 0))]
theorem Qo (e:Bool->Int->Option D)(n:Nat):(KI e n).length=n:=by unfold KI;rw[aS,iw]
theorem qo {g:Type}(f:Int->g){x:Int}(h0:0<=x)(h:x<n):((my n).map f)[x.toNat]?=some (f x):=by
 have e:x.toNat<(my n).length:=by rw[iw];omega
 rw[bg,az e,Ee e,gJ];congr 2;omega
theorem BK {g:Type}(f:Int->g){x:Int}(h0:0<=x)(v:g):((my n).map f).set x.toNat v=(my n).map λj=>if j=x then v else f j:=by
 refine List.ext_getElem (by simp) λi l h2=>?_;rw[List.getElem_set];have h:i<(my n).length:=by simpa using h2
 simp only[tN,Ee h];by_cases e:x.toNat=i
 ·rw[aD e,aD (by omega)]
 ·rw[aC e,aC (by omega)]
theorem Ie {f:Cx}{x:Code}{N:St->Prop}{Q:Exit->St->Prop}(M:St->Prop)(h1:W f x (eT id (dR M (λ_ _=>False))) s)(h2:∀s,M s->N s):W f x (eT id (dR N Q)) s:=
 nA h1 λe g q=>by cases e <;> simp only[eT] at q ⊢ <;> first|exact h2 g q|exact q.elim|(split at q <;> first|(rename_i h;rw[aD h];exact h2 g q)|exact q.elim)
theorem Ya {N1 e M:St->Prop}{f:Exit->St->Prop}(h:M s):dR N1 (dR e (eT id (dR M f))) (.exit id) s:=by simp only[dR,eT,dN];exact h
theorem exB {N1 M:St->Prop}{e:Exit->St->Prop}(h:M s):dR N1 (eT id (dR M e)) (.exit id) s:=by simp only[dR,eT,dN];exact h
theorem exC {N1 f M:St->Prop}{g:Exit->St->Prop}{e:Nat}(h:M s):dR N1 (dR f (eT id (eT e (dR M g)))) (.exit id) s:=by simp only[dR,eT,dN];exact h
structure BfI (b:bn) (H:aA) (E:List (Int×Int)) (n c4 i:Nat) (s:St):Prop where
 df:s.df=[]
 f1:s.fr 1=.rp (cu b)
 f3:s.fr 3=i64 n
 f4:s.fr 4=.os c4 0 1 0 n
 f24:s.fr 24=.seq 2 (E.map pD)
 f25:s.fr 25=i64 E.length
 f26:s.fr 26=i64 i
 le:H.le s.H
 hp:∃c dm,s.H c4=some (.row 37 0 1 (KI dm n))/\Et H (Qi (E.take i)) c dm s.H
structure BfE (b:bn) (H:aA) (E:List (Int×Int)) (n:Nat) (s:St):Prop where
 df:s.df=[]
 f1:s.fr 1=.rp (cu b)
 f3:s.fr 3=i64 n
 f4:s.fr 4=.seq 1 ((my n).map λj=>[.seq 1 ((cT E j).map iD)])
 hH:s.H=H
def KM (c7 c8:Nat) (fl:Nat->Nat) (i c:Nat):Prop:=c=c7\/c=c8\/∃j,j<i/\c=fl j
structure KN (b:bn) (H:aA) (n i c7 c8:Nat) (EL LL:List (List D)) (fl:Nat->Nat) (Hs:aA):Prop where
 le:H.le Hs
 e7:Hs c7=some (.row 341 0 3 EL)
 l7:EL.length=n
 k7:∀el∈EL,el.length=3
 m7:∀j,j<i->∃bm,EL[j]?=some (xo bm (LH (i64 0) (yU b j)) (LG (.val (.bool false)) (yU b j)))
 e8:Hs c8=some (.row 339 0 1 LL)
 l8:LL.length=n
 k8:∀el∈LL,el.length=1
 m8:∀j,j<i->LL[j]?=some [.val (.map (some (fl j)))]
 fm:∀j,j<i->Hs (fl j)=some (.map [])/\H (fl j)=none
 inj:∀j k,j<i->k<i->fl j=fl k->j=k
theorem KN.at (h:KN b H n i c7 c8 EL LL fl Hs)(hc:KM c7 c8 fl i c):∃z,Hs c=some z/\∀o,z≠ .obj o:=by
 rcases hc with rfl|rfl|⟨j,e,rfl⟩
 ·exact⟨_,h.e7,by simp⟩
 ·exact⟨_,h.e8,by simp⟩
 ·exact⟨_,(h.fm j e).1,by simp⟩
theorem KN.cM {Hs':aA}(h:KN b H n i c7 c8 EL LL fl Hs)(aM:H.le Hs')(hk:∀c z,KM c7 c8 fl i c->Hs c=some z->Hs' c=some z):KN b H n i c7 c8 EL LL fl Hs' where
 le:=aM
 e7:=hk _ _ (.inl rfl) h.e7
 l7:=h.l7
 k7:=h.k7
 m7:=h.m7
 e8:=hk _ _ (.inr (.inl rfl)) h.e8
 l8:=h.l8
 k8:=h.k8
 m8:=h.m8
 fm:=λj hj=>⟨hk _ _ (.inr (.inr ⟨j,hj,rfl⟩)) (h.fm j hj).1,(h.fm j hj).2⟩
 inj:=h.inj
theorem KN.step (h:KN b H n i c7 c8 EL LL fl Hs)(hi:i<n)(z:H c7=none)(A:H c8=none){l:Nat}{S:List Int}(m:Hs l=none)(v:(Hs.aU l (.map (SM S))) bl=none):
  KN b H n (i+1) c7 c8 (EL.set i (xo l (LH (i64 0) (yU b i)) (LG (.val (.bool false)) (yU b i)))) (LL.set i [.val (.map (some bl))]) (λj=>if j=i then bl else fl j) ((((Hs.aU l (.map (SM S))).aU bl (.map [])).aU c7 (.row 341 0 3 (EL.set i (xo l (LH (i64 0) (yU b i)) (LG (.val (.bool false)) (yU b i)))))).aU c8 (.row 339 0 1 (LL.set i [.val (.map (some bl))]))):=by
 obtain⟨n1,n2⟩:=bF.1 v;have K:c7≠l:=λe=>by have:=h.e7;rw[e,m] at this;cases this
 have L:c8≠l:=λe=>by have:=h.e8;rw[e,m] at this;cases this
 have x:c7≠bl:=λe=>by have:=h.e7;rw[e,n2] at this;cases this
 have y:c8≠bl:=λe=>by have:=h.e8;rw[e,n2] at this;cases this
 have r:c7≠c8:=λe=>by have g:=h.e7;rw[e,h.e8] at g;simp at g
 have w:∀j,j<i->fl j≠bl/\fl j≠l/\fl j≠c7/\fl j≠c8:=λj p=>by
  have g:=(h.fm j p).1;refine⟨λe=>?_,λe=>?_,λe=>?_,λe=>?_⟩
  ·rw[e,n2] at g;cases g
  ·rw[e,m] at g;cases g
  ·rw[e,h.e7] at g;cases g
  ·rw[e,h.e8] at g;cases g
 refine⟨?_,?_,?_,?_,?_,?_,?_,?_,?_,?_,?_⟩
 ·exact aQ (aQ (aQ (aQ h.le (gA h.le m)) (gA h.le n2)) z) A
 ·rw[aJ r,aK]
 ·rw[mA,h.l7]
 ·intro el f
  rcases List.mem_or_eq_of_mem_set f with f|rfl
  ·exact h.k7 el f
  ·rfl
 ·intro j p
  by_cases e:j=i
  ·subst e
   exact⟨l,wI (by rw[h.l7];exact hi)⟩
  ·rw[List.getElem?_set_ne (λt=>e t.symm)]
   exact h.m7 j (by omega)
 ·rw[aK]
 ·rw[mA,h.l8]
 ·intro el f
  rcases List.mem_or_eq_of_mem_set f with f|rfl
  ·exact h.k8 el f
  ·rfl
 ·intro j p
  by_cases e:j=i
  ·subst e
   rw[aD rfl];exact wI (by rw[h.l8];exact hi)
  ·rw[List.getElem?_set_ne (λt=>e t.symm),aC e]
   exact h.m8 j (by omega)
 ·intro j p
  by_cases e:j=i
  ·rw[aD e,aJ y.symm,aJ x.symm,aK]
   exact⟨rfl,gA h.le n2⟩
  ·obtain⟨B,E,I,J⟩:=w j (by omega)
   rw[aC e,aJ J,aJ I,aJ B,aJ E];exact h.fm j (by omega)
 ·intro j k p M o
  by_cases e:j=i <;> by_cases u:k=i
  ·omega
  ·rw[aD e,aC u] at o
   exact absurd o.symm (w k (by omega)).1
  ·rw[aC e,aD u] at o
   exact absurd o (w j (by omega)).1
  ·rw[aC e,aC u] at o
   exact h.inj j k (by omega) (by omega) o
theorem KM.or (h:KM c7 c8 (λj=>if j=i then bl else fl j) (i+1) c):KM c7 c8 fl i c\/c=bl:=by
 rcases h with h|h|⟨j,f,h⟩
 ·exact .inl (.inl h)
 ·exact .inl (.inr (.inl h))
 ·by_cases e:j=i
  ·exact .inr (h.trans (aD e))
  ·replace h:=h.trans (aC e);exact .inl (.inr (.inr ⟨j,by omega,h⟩))
theorem Ml (l:List Int):∀S,(oJ S l).length<=S.length+l.length:=by
 induction l with
 |nil=>intro S;exact bh _
 |cons x l f=>
  intro S
  have g:=f (uR S x)
  have h:(uR S x).length<=S.length+1:=by unfold uR;split <;> simp
  have e:oJ S (x::l)=oJ (uR S x) l:=rfl
  rw[e,bx];omega
def wkI (b:bn) (i:Nat) (W:List (Int×Int)):Prop:=∀p x,(p,x)∈W↔(0<=p/\p<i)/\x∈Ef b p
theorem Q9 {W:List (Int×Int)}{g:List Int}(h:wkI b i W)(hp:g.Perm (oJ [] (Ef b i))):wkI b (i+1) (W++g.map λx=>((i:Int),x)):=λp x=>by
 rw[bB,h p x,cD];have f:∀x,x∈g↔x∈Ef b i:=λx=>by rw[hp.mem_iff,vd];simp
 constructor
 ·rintro(⟨j,l⟩|⟨y,t,e⟩)
  ·exact⟨⟨j.1,by omega⟩,l⟩
  ·injection e with o r
   subst o r;exact⟨⟨by omega,by omega⟩,(f y).1 t⟩
 ·rintro⟨⟨j,l⟩,m⟩
  by_cases e:p=i
  ·subst e
   exact .inr ⟨x,(f x).2 m,rfl⟩
  ·exact .inl ⟨⟨j,by omega⟩,m⟩
structure InI (b:bn) (H:aA) (E:List (Int×Int)) (n c7 c8 i:Nat) (s:St):Prop where
 df:s.df=[]
 f1:s.fr 1=.rp (cu b)
 f3:s.fr 3=i64 n
 f4:s.fr 4=.seq 1 ((my n).map λj=>[.seq 1 ((cT E j).map iD)])
 f7:s.fr 7=.os c7 0 3 0 n
 f8:s.fr 8=.os c8 0 1 0 n
 f48:s.fr 48=i64 n
 f49:s.fr 49=i64 i
 hp:∃EL LL fl ob W,KN b H n i c7 c8 EL LL fl s.H/\Gl H 60 2 (List.map pD W) (s.fr 9) s.H ob/\(∀c,KM c7 c8 fl i c->ob≠some c)/\wkI b i W/\W.length<=i * (sV b).length
structure InE (b:bn) (H:aA) (E:List (Int×Int)) (n c8:Nat) (s:St):Prop where
 df:s.df=[]
 f3:s.fr 3=i64 n
 f4:s.fr 4=.seq 1 ((my n).map λj=>[.seq 1 ((cT E j).map iD)])
 hp:∃(EL LL:List (List D)) (fl:Nat->Nat) (ob:Option Nat) (W:List (Int×Int)),s.fr 7=.seq 3 EL/\s.fr 8=.seq 1 LL/\EL.length=n/\LL.length=n/\(∀j,j<n->∃bm,EL[j]?=some (xo bm (LH (i64 0) (yU b j)) (LG (.val (.bool false)) (yU b j))))/\(∀j,j<n->LL[j]?=some [.val (.map (some (fl j)))])/\
  H.le s.H/\(∀j,j<n->s.H (fl j)=some (.map [])/\H (fl j)=none)/\(∀j k,j<n->k<n->fl j=fl k->j=k)/\Gl H 60 2 (List.map pD W) (s.fr 9) s.H ob/\(∀j,j<n->ob≠some (fl j))/\wkI b n W/\W.length<=n * (sV b).length
structure PrH (b:bn) (H:aA) (n:Nat) (fl:Nat->Nat) (V W:List (Int×Int)) (d:D) (Hs:aA) (ob:Option Nat):Prop where
 le:H.le Hs
 fm:∀j,j<n->Hs (fl j)=some (.map (SM (Lp V j)))
 gl:Gl H 60 2 (List.map pD W) d Hs ob
 nb:∀j,j<n->ob≠some (fl j)
structure YB (E:List (Int×Int)) (n:Nat) (EL LL:List (List D)) (s:St):Prop where
 df:s.df=[]
 f3:s.fr 3=i64 n
 f4:s.fr 4=.seq 1 ((my n).map λj=>[.seq 1 ((cT E j).map iD)])
 f7:s.fr 7=.seq 3 EL
 f8:s.fr 8=.seq 1 LL
structure PrE (b:bn) (H:aA) (n:Nat) (LL:List (List D)) (fl:Nat->Nat) (s:St):Prop where
 df:s.df=[]
 f3:s.fr 3=i64 n
 f8:s.fr 8=.seq 1 LL
 hp:∃V,H.le s.H/\(∀j,j<n->s.H (fl j)=some (.map (SM (Lp V j))))/\(∀y,y∈V↔zU b y.1 y.2)/\V.length<=1000000000000/\V.Nodup
def M9 (V:List (Int×Int)) (n i:Nat):List (List D):=(my n).map λj=>[if j<(i:Int) then D.seq 1 ((dL (Lp V j)).map iD) else .val (.slice none 0 0)]
theorem Ma (V:List (Int×Int))(n:Nat):M9 V n 0=List.replicate n [.val (.slice none 0 0)]:=by
 unfold M9;refine List.ext_getElem (by simp [iw]) λi h1 f=>?_;have e:i<(my n).length:=by simpa using h1
 simp only[tN,Ee e,List.getElem_replicate];rw[aC (by omega)]
theorem Ct (V:List (Int×Int))(n i:Nat):(M9 V n i).length=n:=by unfold M9;rw[aS,iw]
theorem RA (V:List (Int×Int))(h:i<n):(M9 V n i)[i]?=some [.val (.slice none 0 0)]:=by
 have:=qo (λj=>[if j<(i:Int) then D.seq 1 ((dL (Lp V j)).map iD) else .val (.slice none 0 0)]) (n:=n) (x:=(i:Int)) (by omega) (by omega);rw[aX,aC (by omega)] at this;exact this
theorem RB (V:List (Int×Int))(n i:Nat):(M9 V n i).set i [.seq 1 ((dL (Lp V i)).map iD)]=M9 V n (i+1):=by
 have:=BK (λj=>[if j<(i:Int) then D.seq 1 ((dL (Lp V j)).map iD) else .val (.slice none 0 0)]) (n:=n) (x:=(i:Int)) (by omega) [.seq 1 ((dL (Lp V i)).map iD)];rw[aX] at this;unfold M9;rw[this];refine pf λj _=>?_;by_cases e:j=i
 ·rw[aD e,e,aD (by omega)]
 ·rw[aC e]
  by_cases h:j<i
  ·rw[aD h,aD (by omega)]
  ·rw[aC h,aC (by omega)]
theorem Qz (V:List (Int×Int))(n:Nat):M9 V n n=(my n).map λp=>[.seq 1 ((dL (Lp V p)).map iD)]:=pf λj e=>by rw[aD (mU.1 e).2]
theorem Hi (ok:Gn b){p x:Int}(h:zU b p x):du x:=by
 refine Hj (P:=λp x=>du x) (λp x h=>?_) (λp q x _ _ h=>h) h;obtain⟨y,k,⟨i,g,e,rfl⟩,f⟩:=xY h;exact(ok.ef p i k g e).us x f
theorem Ou (b:bn)(H:aA)(ok:Gn b):aN prog 166 [.agg (cu b)] H λd H'=>∃V:List (Int×Int),V.Nodup/\(∀y,y∈V↔zU b y.1 y.2)/\d=.seq 1 ((my (bu (fD b))).map λp=>[.seq 1 ((dL (Lp V p)).map iD)])/\H=H':=by
 have de:=ok.cn;have fa:=λH1=>NL b ok H1;have fd:=λH1=>Ng b ok H1;have j0:=λp h0 hp H1=>YQ b ok p h0 hp H1;have ey:=FL (fD b);obtain⟨E,hE⟩:=oX (oh (fD b));obtain⟨n,hn⟩:=oX (bu (fD b));rw[<-hE] at fd ey;rw[<-hn] at fa de ey ⊢;have dp:=lm pD E;refine gQ (aq (K:=λd=>∃V:List (Int×Int),V.Nodup/\(∀y,y∈V↔zU b y.1 y.2)/\d=.seq 1 ((my n).map λp=>[.seq 1 ((dL (Lp V p)).map iD)])) ?_) (λd H' ⟨⟨V,h0,A,h2⟩,h3⟩=>⟨V,h0,A,h2,h3⟩);unfold cu at fa fd j0 ⊢;refine dO func166 ntmps166 results166 λw0 g0 Q aB=>?_;refine t0 ?_;intro U Y O C;intro c1 m3;refine Y _ ?_;refine cm 1 m3 ?_;refine t0 ?_;intro U Y O C;refine(fa _).q ?_;have cv:=aZ n;refine t0 ?_;intro U Y O C;refine⟨cv,by omega,by omega,λc4 dd=>?_⟩;refine Y _ ?_;refine t0 ?_;intro U Y O C;refine(fd _).q ?_;have ho:∀e∈E,(0<=e.1/\e.1<n)/\(0<=e.2/\e.2<n):=λe he=>by
  rw[hE,sM] at he;rw[hn];exact he.lt
 have o1:E.length<=16900:=ma ey (by have:=kD de de;omega);have ld:List.replicate n [D.val (.slice none 0 0)]=KI (λ_ _=>none) n:=by
  unfold KI;refine List.ext_getElem (by simp [iw]) λi A h2=>?_;simp
 rw[ld];refine tq dp ?_;intro U Y O C;refine Ie (BfE b H E n) ?_ ?_
 ·refine aO E.length (BfI b H E n c4) ⟨rfl,rfl,rfl,rfl,rfl,rfl,rfl,aQ (aF _) dd,λ_ _=>0,λ_ _=>none,aK _ _ _,⟨λ_ _ _=>rfl,λk x h=>absurd (by cases k <;> simp [Qi,cT]) h,λk x _ _ h _ _=>absurd (by cases k <;> simp [Qi,cT]) h⟩⟩ ?_
  rintro i s hi ⟨f,f1,M,T,i6,et,eu,P,c,dm,hr,hF⟩;have hx:=aX i;have ak:=aZ i;by_cases I:i<E.length
  case neg=>
   have q1:=lF i E.length;rw[bK (by omega)] at hF;have kl:(H.aU c4 (.row 37 0 1 (KI dm n))).le s.H:=λb x hb=>by
    by_cases e:b=c4
    ·rw[e,aK] at hb;rw[e,hr];exact hb
    ·rw[aJ e] at hb;exact P _ _ hb
   refine Mh H (λj=>.seq 1 ((cT E j).map iD)) P dd hr (λj _=>?_) ?_
   ·obtain⟨ob,J,b5,_⟩:=hF.gl true j
    refine da (e:=3) (ob:=ob) kl ?_;rcases J with J|⟨c',o',g1,g2,g3,g4⟩
    ·exact .inl J
    ·refine .inr ⟨c',o',g1,g2,?_,g4⟩
     rw[aJ (λe=>by rw[e,hr] at g4;cases g4)];exact g3
   refine ux 4 T (aK _ _ _) (by rw[aS,iw];omega) ?_;have m4:((H.aU c4 (.row 37 0 1 ((my n).map λj=>[D.seq 1 ((cT E j).map iD)]))).del c4)=H:=by rw[kX,iy dd]
   have mu:List.take n (List.drop 0 ((my n).map λj=>[D.seq 1 ((cT E j).map iD)]))=(my n).map λj=>[D.seq 1 ((cT E j).map iD)]:=by rw[dj,bK (by rw[aS,iw];omega)]
   refine iz (λs=>s.df=[]/\s.fr 1=.rp (cu b)/\s.fr 3=i64 n/\s.fr 4=.seq 1 ((my n).map λj=>[.seq 1 ((cT E j).map iD)])/\s.fr 25=i64 E.length/\s.fr 26=i64 i/\s.H=H) ⟨f,f1,M,ai (D.seq 1) mu,et,eu,m4⟩ ?_;rintro B ⟨a0,g1,g3,g4,ll,ln,gH⟩;refine tq (bQ ll ln q1) ?_;intro U Y O C;exact Ya ⟨a0,g1,g3,g4,gH⟩
  have q1:=lT i E.length;have j7:=il I;have w3:=wS i;obtain⟨e,dk⟩:=oX E[i];have eg:=ho e (by rw[dk];exact ao I);have h5:=M0 (E.take i) e;rw[dk,<-bw I,<-dk] at h5;rw[<-dk] at j7;refine tq (bG i6 et eu q1 j7 hx ak (av I dp)) ?_;intro U Y O C;intro b6 m2;refine Y _ ?_;refine cm 6 m2 ?_;have oo:(E.take i).length<=16900:=by rw[bX];omega
  have gk:=C7 (E.take i) e.2;obtain⟨ob,J,b5,kv⟩:=hF.gl true e.2;have wY:(KI dm n)[e.2.toNat]?=some [(dm true e.2).getD (.val (.slice none 0 0))]:=qo (λj=>[(dm true j).getD (.val (.slice none 0 0))]) eg.2.1 eg.2.2;obtain⟨d37,l3⟩:=oX ((dm true e.2).getD (.val (.slice none 0 0)));rw[<-l3] at wY J;have mb:((some 37==some 31||some 37==some 32||some 37==some 34||some 37==some 35||some 37==some 38||some 37==some 39||some 37==some 40)=true)=False:=aI (by decide);obtain⟨⟨o4,o5⟩,i4,li⟩:=eg;refine wE (λt=>t==some 31||t==some 32||t==some 34||t==some 35||t==some 38||t==some 39||t==some 40) (λ_=>false) (λ_ _ _ _=>False) (λ_ _ _ _ _=>False) λU Y=>?_;have fs:=And.intro T (And.intro mb (And.intro i4 (And.intro li (And.intro hr (And.intro wY Qo)))));refine uj ?_;refine nx ?_;(try clear fs);have kq:ob≠some c4:=λh=>by
   obtain⟨o,els,he⟩:=b5 c4 h;rw[hr] at he;simp at he
  refine ax (e:=3) fk rfl fk rfl yv rfl (by decide) P J (new:=[iD e.1]) (by exact⟨rfl,rfl⟩) (by rw[aS];show(List.length (cT (E.take i) e.2)+1) * 8<=_;omega) λd H6 kj br kk k5=>?_;have q3:=k5 _ _ hr kq;have nw:=q3.1;have m5:∃c o n,d=.os c o 1 0 n:=by
   rcases br with⟨_,_,h⟩|⟨c,o,_,h,_⟩
   ·simp at h
   ·exact⟨c,o,_,h⟩
  obtain⟨c',o',n',m6⟩:=m5;subst m6;have l9:∀k' x',Qi (E.take i) k' x'≠[]->¬(k'=true/\x'=e.2)->(H6.aU c4 (.row 37 0 1 ((KI dm n).set e.2.toNat [.os c' o' 1 0 n']))) (c k' x')=s.H (c k' x')/\kj≠some (c k' x'):=λk' x' A h2=>by
   obtain⟨o2,a1,a2,a3⟩:=hF.own k' x' A;have q5:=k5 _ _ a3 (kv k' x' A h2);rw[aJ (λe=>by rw[e,hr] at a3;simp at a3),q5.1,a3];exact⟨rfl,q5.2⟩
  have g5:Gl H 3 1 ((Qi (E.take i) true e.2++[e.1]).map iD) (.os c' o' 1 0 n') (H6.aU c4 (.row 37 0 1 ((KI dm n).set e.2.toNat [.os c' o' 1 0 n']))) kj:=by
   rw[bI];exact br.cM λc h=>aJ λe=>q3.2 (by rw[h,e])
  obtain⟨cN,ii⟩:=hF.step g5 l9;rw[<-h5] at ii;have dy:(KI dm n).set e.2.toNat [.os c' o' 1 0 n']=KI (BV dm true e.2 (some (.os c' o' 1 0 n'))) n:=by
   unfold KI;rw[BK _ i4];refine pf λj _=>?_;by_cases hj:j=e.2
   ·rw[aD hj,hj,lW];rfl
   ·rw[aC hj,jO (by simp [hj])]
  have l6:H.le (H6.aU c4 (.row 37 0 1 ((KI dm n).set e.2.toNat [.os c' o' 1 0 n']))):=aQ kk dd;refine eV (av nw wY) ?_;refine nx ?_;rw[cp,cF];refine tn (av eu w3) ?_;exact⟨I,f,f1,M,T,i6,et,rfl,l6,cN,_,by rw[<-dy];exact aK _ _ _,ii⟩
 rintro s ⟨f,f1,M,T,hH⟩;unfold cu at f1;refine bW ?_;refine dE (λ_ _ _ _=>False) λU Y=>?_;refine dst (av M hH) ?_;intro U Y O C;refine⟨cv,by omega,by omega,λc7 f5=>⟨cv,by omega,by omega,λc8 j3=>?_⟩⟩;refine Y _ ?_;have e0:H c8=none:=(bF.1 j3).2;have lq:c8≠c7:=(bF.1 j3).1;have aw:H.le ((H.aU c7 (.row 341 0 3 (List.replicate n [.val (.map none),i64 0,.val (.bool false)]))).aU c8 (.row 339 0 1 (List.replicate n [.val (.map none)]))):=aQ (aQ (aF _) f5) e0;refine tq M ?_;intro U Y O C;refine Ie (InE b H E n c8) ?_ ?_
 ·refine aO n (InI b H E n c7 c8) ⟨f,f1,M,T,rfl,rfl,rfl,rfl,_,_,λ_=>0,none,[],⟨aw,(aJ lq.symm).trans (aK _ _ _),wJ,λel h=>by rw[(List.mem_replicate.1 h).2] <;> rfl,by simp,aK _ _ _,wJ,λel h=>by rw[(List.mem_replicate.1 h).2] <;> rfl,by simp,by simp,by simp⟩,eB _ _ _ _,by simp,λp x=>by simp;omega,by simp⟩ ?_
  rintro i s hi ⟨f,f1,M,T,f7,R,b9,ba,EL,LL,fl,ob,L,N,J,w,cc,gt⟩;have hx:=aX i;have ak:=aZ i;unfold cu at f1;by_cases I:i<n
  case neg=>
   have q1:=nF ((i:Int)<(n:Int));have bs:i=n:=by omega
   subst bs;have eo:c8≠c7:=λe=>by have e8:=N.e8;rw[e,N.e7] at e8;simp at e8
   refine ux 7 f7 N.e7 (by rw[N.l7];omega) ?_;refine ux 8 (b:=c8) (o:=0) (sz:=1) (k:=0) (n:=i) (ty:=339) (els:=LL) R ((bL eo).trans N.e8) (by rw[N.l8];omega) ?_;have mx:List.take i (List.drop 0 EL)=EL:=by rw[dj,bK (by rw[N.l7];omega)]
   have n4:List.take i (List.drop 0 LL)=LL:=by rw[dj,bK (by rw[N.l8];omega)]
   have jj:∀c z,s.H c=some z->c≠c7->c≠c8->((s.H.del c7).del c8) c=some z:=λc z h A h2=>by rw[bL h2,bL A];exact h
   have m9:∀j,j<i->((s.H.del c7).del c8) (fl j)=some (.map [])/\H (fl j)=none:=λj hj=>by
    have A:=(N.fm j hj).1;exact⟨jj _ _ A (λe=>by rw[e,N.e7] at A;cases A) (λe=>by rw[e,N.e8] at A;cases A),(N.fm j hj).2⟩
   have mm:Gl H 60 2 (List.map pD L) (s.fr 9) ((s.H.del c7).del c8) ob:=J.cM λc h=>by rw[bL (λe=>w c8 (.inr (.inl rfl)) (by rw[h,e])),bL (λe=>w c7 (.inl rfl) (by rw[h,e]))]
   refine iz (λB=>B.df=[]/\B.fr 3=i64 i/\B.fr 4=.seq 1 ((my i).map λj=>[.seq 1 ((cT E j).map iD)])/\B.fr 7=.seq 3 EL/\B.fr 8=.seq 1 LL/\B.fr 48=i64 i/\B.fr 49=i64 i/\H.le B.H/\(∀j,j<i->B.H (fl j)=some (.map [])/\H (fl j)=none)/\Gl H 60 2 (List.map pD L) (B.fr 9) B.H ob) ⟨f,M,T,ai (D.seq 3) mx,ai (D.seq 1) n4,b9,ba,λc z hc=>jj c z (N.le c z hc) (λe=>by rw[e,f5] at hc;cases hc) (λe=>by rw[e,e0] at hc;cases hc),m9,mm⟩ ?_;rintro B ⟨a0,g3,g4,g7,g8,cr,ct,lp,gf,gg⟩;refine tq (bQ cr ct q1) ?_;intro U Y O C;exact Ya ⟨a0,g3,g4,EL,LL,fl,ob,L,g7,g8,N.l7,N.l8,N.m7,N.m8,lp,gf,N.inj,gg,λj hj=>w _ (.inr (.inr ⟨j,hj,rfl⟩)),cc,gt⟩
  have ag:(i:Int)<(n:Int):=by omega
  have q1:((i:Int)<(n:Int))=True:=aG ag;have w3:=wS i;have hh:=λH1=>j0 i ak (by rw[<-hn];exact ag) H1;obtain⟨lo,ge⟩:=oX (LH (i64 0) (yU b i));obtain⟨df,ef⟩:=oX (LG (.val (.bool false)) (yU b i));obtain⟨S,hS⟩:=oX (oJ [] (Ef b i));rw[<-ge,<-ef,<-hS] at hh;obtain⟨d9,a4⟩:=oX (s.fr 9);rw[<-a4] at J;refine tq (eP f1 f7 R b9 ba q1) ?_;intro U Y O C;refine(hh _).mono ?_;rintro d _ ⟨bm,b1,rfl,rfl⟩;unfold xo;have e7:=N.e7;have l7:=N.l7;have e8:=N.e8;have l8:=N.l8;refine t0 ?_;intro U Y O C;intro bl j1;obtain⟨n1,n2⟩:=bF.1 j1;have a7:c7≠bm:=λe=>by rw[e,b1] at e7;cases e7
  have a8:c8≠bm:=λe=>by rw[e,b1] at e8;cases e8
  have b7:c7≠bl:=λe=>by rw[e,n2] at e7;cases e7
  have b8:c8≠bl:=λe=>by rw[e,n2] at e8;cases e8
  have eo:c8≠c7:=λe=>by rw[e,e7] at e8;simp at e8
  have g7:((s.H.aU bm (.map (SM S))).aU bl (.map [])) c7=some (.row 341 0 3 EL):=by rw[aJ b7,aJ a7];exact e7
  have g8:∀x,(((s.H.aU bm (.map (SM S))).aU bl (.map [])).aU c7 x) c8=some (.row 339 0 1 LL):=λx=>by rw[aJ eo,aJ b8,aJ a8];exact e8
  have i7:EL[i]?=some EL[i]:=az (by omega);have i8:LL[i]?=some LL[i]:=az (by omega);have k7:=N.k7 EL[i] (ao _);have k8:=N.k8 LL[i] (ao _);have d7:List.drop 3 EL[i]=[]:=pK (by omega);have d8:List.drop 1 LL[i]=[]:=pK (by omega);have b0:=N.step (S:=S) I f5 e0 b1 j1;rw[<-ge,<-ef] at b0;unfold xo at b0;refine eV (bG ak ag g7 g8 i7 i8 k7 (bQ k8 d7 d8)) ?_;refine nx ?_;rw[cF];have kf:(EL.set i [.val (.map (some bm)),lo,df]).length=n:=by rw[mA,l7]
  have i9:(EL.set i [.val (.map (some bm)),lo,df])[i]?=some [.val (.map (some bm)),lo,df]:=wI (by omega);obtain⟨ad,ck⟩:∃ad,ad=EL.set i [.val (.map (some bm)),lo,df]:=⟨_,rfl⟩;obtain⟨ae,eb⟩:∃ae,ae=LL.set i [.val (.map (some bl))]:=⟨_,rfl⟩;obtain⟨Z,ei⟩:∃Z:Nat->Nat,Z=λj=>if j=i then bl else fl j:=⟨_,rfl⟩
  obtain⟨H5,bq⟩:=oX (((((s.H.aU bm (.map (SM S))).aU bl (.map [])).aU c7 (.row 341 0 3 ad)).aU c8 (.row 339 0 1 ae)));have hs:∀c,KM c7 c8 Z (i+1) c->KM c7 c8 fl i c\/c=bl:=λc h=>by rw[ei] at h;exact h.or
  have i0:∀c,KM c7 c8 Z (i+1) c->ob≠some c:=λc h=>by
   rcases hs c h with h|h
   ·exact w c h
   ·intro e
    rcases J with⟨g,_⟩|⟨c2,o2,A,_,_,h4⟩
    ·rw[g] at e;cases e
    ·rw[e] at A;injection A with A;rw[<-A,h,n2] at h4;cases h4
  have ft:Gl H 60 2 (List.map pD L) d9 H5 ob:=J.cM λc h=>by
   have x1:c≠c7:=λe=>w c7 (.inl rfl) (by rw[h,e]);have x2:c≠c8:=λe=>w c8 (.inr (.inl rfl)) (by rw[h,e]);have x3:s.H c≠none:=λe=>by
    rcases J with⟨g,_⟩|⟨c2,o2,A,_,_,h4⟩
    ·rw[g] at h;cases h
    ·rw[h] at A;injection A with A;rw[<-A,e] at h4;cases h4
   rw[bq,aJ x2,aJ x1,aJ (λe=>x3 (by rw[e,n2])),aJ (λe=>x3 (by rw[e,b1]))]
  have dz:ob≠some bm:=λe=>by
   rcases J with⟨g,_⟩|⟨c2,o2,A,_,_,h4⟩
   ·rw[g] at e;cases e
   ·rw[e] at A;injection A with A;rw[<-A,b1] at h4;cases h4
  have js:H5 bm=some (.map (SM S)):=by rw[bq,aJ a8.symm,aJ a7.symm,aJ (Ne.symm n1),aK]
  have l0:¬KM c7 c8 Z (i+1) bm:=λh=>by
   rcases hs bm h with h|h
   ·obtain⟨z,hz,_⟩:=N.at h;rw[b1] at hz;cases hz
   ·exact n1 h.symm
  rw[<-ck,<-eb,<-ei,<-bq] at b0;rw[<-ck] at kf i9;rw[<-ck,<-eb,<-bq];have ks:=gA N.le b1;have ec:=b0.le;have i5:=b0.e7;refine iz (λB=>B.df=[]/\B.fr 1=.rp (cu b)/\B.fr 3=i64 n/\B.fr 4=.seq 1 ((my n).map λj=>[.seq 1 ((cT E j).map iD)])/\B.fr 7=.os c7 0 3 0 n/\B.fr 8=.os c8 0 1 0 n/\B.fr 48=i64 n/\B.fr 49=i64 i/\B.fr 10=i64 i/\B.fr 9=d9/\B.H=H5) ⟨f,f1,M,T,f7,R,b9,ba,rfl,a4.symm,rfl⟩ ?_;rintro B ⟨a0,g1,g3,g4,g7,g8,cr,ct,ew,g9,gH⟩;clear ck eb ei bq ge ef w J N i7 i8 k7 k8 d7 d8;refine tq (bG g7 ew gH i5 kf i9 hx (bQ ak I ag)) ?_;intro U Y O C;refine zX (SV S) rfl (show(67:Nat)<160 by decide) underlying338 rfl (by show B.H bm=_;rw[gH];exact js) ?_;intro r H6 c5 on ip bc;replace c5:H5 r=none:=by rw[<-gH];exact c5
  have nk:∀c z,H5 c=some z->c≠r:=λc z h e=>by rw[e,c5] at h;cases h
  replace bc:∀c,c≠bm->c≠r->H6 c=H5 c:=λc A h2=>(bc c A h2).trans (congrFun gH c);have h8:=gA ec c5;have io:KN b H n (i+1) c7 c8 ad ae Z H6:=b0.cM (λc z hc=>(bc c (λe=>by rw[e,ks] at hc;cases hc) (λe=>by rw[e,h8] at hc;cases hc)).trans (ec c z hc)) λc z hc hz=>(bc c (λe=>l0 (e▸hc)) (nk c z hz)).trans hz;have b5:ob≠some r:=λe=>by
   rcases ft with⟨g,_⟩|⟨c2,o2,A,_,_,h4⟩
   ·rw[g] at e;cases e
   ·rw[e] at A;injection A with A;rw[<-A,c5] at h4;cases h4
  have br:Gl H 60 2 (List.map pD L) d9 H6 ob:=ft.cM λc h=>bc c (λe=>dz (by rw[h,e])) (λe=>b5 (by rw[h,e]));refine Y _ ?_;refine t0 ?_;intro U Y O C;refine jz (λk s'=>∃(b4 dn:List Int) (ap:Option Nat),k=b4.length/\s'.df=[]/\s'.fr 1=.rp (cu b)/\s'.fr 3=i64 n/\s'.fr 4=.seq 1 ((my n).map λj=>[.seq 1 ((cT E j).map iD)])/\s'.fr 7=.os c7 0 3 0 n/\s'.fr 8=.os c8 0 1 0 n/\s'.fr 48=i64 n/\s'.fr 49=i64 i/\s'.fr 10=i64 i/\s'.fr 67=.val (.pointer (some ⟨r,0,none⟩))/\B0 s'.H bm r (SV b4)/\KN b H n (i+1) c7 c8 ad ae Z s'.H/\Gl H 60 2 (List.map pD (L++dn.map λx=>((i:Int),x))) (s'.fr 9) s'.H ap/\(∀c,KM c7 c8 Z (i+1) c->ap≠some c)/\ap≠some bm/\ap≠some r/\(dn++b4).Perm S) S.length ⟨S,[],ob,rfl,a0,g1,g3,g4,g7,g8,cr,ct,ew,rfl,ip,io,by rw[fw,bz];exact(ai (λd=>Gl H 60 2 (List.map pD L) d H6 ob) g9).mpr br,i0,dz,b5,List.Perm.refl _⟩ ?_;clear ip io br bc b5 dz i0 ft b0 js i5 ec gH g9 ew ct cr g8 g7 g4 g3 g1 a0;rintro k s3 ⟨b4,dn,kg,rfl,f,f1,M,T,f7,R,b9,ba,ep,cq,hR,N,J,w,kp,h6,hp⟩;obtain⟨e9,fb⟩:=oX (s3.fr 9);rw[<-fb] at J;have ir:=Ml (Ef b i) [];have w9:=UR b i;have no:=ok.us;rw[<-hS] at ir;rw[dX] at ir;have op:(i+1) * (sV b).length<=130 * 400000:=kD (by omega) no;have ov:(i+1) * (sV b).length=i * (sV b).length+(sV b).length:=kH _ _;refine tq cq ?_;intro U Y O C;refine uw rfl (show(68:Nat)<160 by decide) cq hR (λgn=>?_) (λl1 p l2 H7 gn lx ls g6=>?_)
  ·have nm:b4=[]:=by
    cases b4 with
    |nil=>rfl
    |cons a l=>cases gn
   subst nm
   rw[bz] at hp
   have gk:=hp.length_eq
   refine eV trivial ?_;refine nx ?_
   refine tn (av ba w3) ?_
   exact⟨I,f,f1,M,T,f7,R,b9,rfl,ad,ae,Z,kg,L++dn.map λx=>((i:Int),x),N,by subst fb;exact J,w,Q9 cc (by rw[<-hS];exact hp),by rw[aV,aS];omega⟩
  ·obtain⟨t1,p1,e1,e2,e3⟩:=wH.1 gn
   obtain⟨x,t2,e4,e5,e6⟩:=wL.1 e3;subst e1 e4 e2 e6 e5;have gk:=hp.length_eq;have na:((dn++[x])++(t1++t2)).Perm S:=by
    refine List.Perm.trans ?_ hp;rw[bE];exact zF _ (zQ (l₁:=t1) (l₂:=t2) (a:=x)).symm
   have f0:B0 H7 bm r (SV (t1++t2)):=by
    have:SV (t1++t2)=SV t1++SV t2:=bI;rw[this];exact lx
   have ne:¬KM c7 c8 Z (i+1) r:=λh=>by
    obtain⟨z,hz,nv⟩:=N.at h;obtain⟨y,hy⟩:=hR.obj;rw[hz] at hy;injection hy with hy;exact nv y hy
   have ez:KN b H n (i+1) c7 c8 ad ae Z H7:=N.cM (λc z hc=>(g6 c (λe=>by rw[e,h8] at hc;cases hc)).trans (N.le c z hc)) λc z hc hz=>(g6 c (λe=>ne (e▸hc))).trans hz;have mp:Gl H 60 2 (List.map pD (L++dn.map λx=>((i:Int),x))) e9 H7 kg:=J.cM λc h=>g6 c λe=>h6 (by rw[h,e]);have cd:(L++dn.map λx=>((i:Int),x)).length+1<=52000000:=by
    simp only[aV,bx,aS] at gk ⊢;omega
   refine eV trivial ?_;refine nx ?_;refine t0 ?_;intro U Y O C;refine rj rfl (show(70:Nat)<160 by decide) (by exact cq) ls ?_;refine eV ep ?_;refine nx ?_;refine tq ep ?_;intro U Y O C;rw[<-fb];have kt:=ez.le;have bt:List.map pD (L++(dn++[x]).map λx=>((i:Int),x))=List.map pD (L++dn.map λx=>((i:Int),x))++[pD ((i:Int),x)]:=by simp only[bI,cC,fw,bE]
   refine ax (e:=60) qm rfl qm rfl Bi rfl (by decide) kt mp (new:=[pD ((i:Int),x)]) (by exact⟨rfl,rfl⟩) (by rw[aS];show(_+1) * 16<=_;omega) λd H8 ar b2 aw am=>?_;obtain⟨zb,kd⟩:∃z,H7 bm=some z:=by obtain⟨_,h⟩:=f0.map;exact⟨_,h⟩
   obtain⟨zr,ke⟩:∃z,H7 r=some z:=by obtain⟨_,h⟩:=f0.obj;exact⟨_,h⟩
   have k1:=am bm zb kd kp;have k2:=am r zr ke h6;have lw:KN b H n (i+1) c7 c8 ad ae Z H8:=ez.cM aw λc z hc hz=>(am c z hz (w c hc)).1;have lc:∀c,KM c7 c8 Z (i+1) c->ar≠some c:=λc hc=>by
    obtain⟨z,hz,_⟩:=ez.at hc;exact(am c z hz (w c hc)).2
   refine tz ?_;exact⟨_,by show(t1++t2).length<(t1++x::t2).length;rw[aV,aV,bx];omega,t1++t2,dn++[x],ar,rfl,f,f1,M,T,f7,R,b9,ba,ep,cq,f0.cM (k1.1.trans kd.symm) (k2.1.trans ke.symm),lw,by rw[bt];exact b2,lc,k1.2,k2.2,na⟩
 rintro s ⟨f,M,T,EL,LL,fl,ob,L,f7,R,l7,l8,m7,m8,P,u,hu,J,w,cc,gt⟩;have hC:(Bq b).length * (E.length+1)+L.length<=1000000000000:=by
  have A:=K2 b;rw[<-hn] at A;have h2:n * (sV b).length<=130 * 400000:=kD de ok.us;have h3:(Bq b).length * (E.length+1)<=52000000 * 16901:=kD (by omega) (by omega);omega
 have i3:=VH E [] (Bq b);have i1:KU b [] L:=KU.init λp x=>by
  rw[cc p x];refine⟨λh=>h.2,λh=>⟨?_,h⟩⟩;obtain⟨y,k,A,_⟩:=xY h;rw[hn];exact A.lt
 obtain⟨UW,it⟩:=oX (Bq b);rw[<-it] at hC i3;have ht:∀j,j<n->H (fl j)=none:=λj hj=>(u j hj).2;refine t0 ?_;intro U Y O C;refine Ie (PrE b H n LL fl) ?_ ?_
 ·refine jz (λk s'=>∃V W ap,k=MQ E V UW+W.length/\YB E n EL LL s'/\PrH b H n fl V W (s'.fr 9) s'.H ap/\KU b V W/\V.length+MQ E V UW+W.length<=1000000000000) _ ⟨[],L,ob,rfl,⟨f,M,T,f7,R⟩,⟨P,λj hj=>(u j hj).1,J,w⟩,i1,by rw[dX];omega⟩ ?_
  clear w J u P R f7 T M f;rintro k s ⟨V,W,ob,rfl,⟨f,M,T,f7,R⟩,⟨P,u,J,w⟩,ac,f2⟩;rcases List.eq_nil_or_concat W with rfl|⟨W,y,rfl⟩
  ·have ci:=ac.fin
   have md:s.fr 9=.val (.slice none 0 0)\/∃c o,s.fr 9=.os c o 2 0 0:=by
    rcases J with⟨_,h,_⟩|⟨c,o,_,h,_⟩
    ·exact .inl h
    ·exact .inr ⟨c,o,h⟩
   rcases md with f9|⟨c,o,f9⟩
   ·refine tq f9 ?_;intro U Y O C
    exact Ya ⟨f,M,R,V,P,u,ci,by omega,ac.nd⟩
   ·refine tq f9 ?_;intro U Y O C
    exact Ya ⟨f,M,R,V,P,u,ci,by omega,ac.nd⟩
  ·rw[List.concat_eq_append] at ac f2 J ⊢
   have jp:(List.map pD (W++[y])).length=W.length+1:=by rw[aS,aV];rfl
   have hw:(W++[y]).length=W.length+1:=by rw[aV];rfl
   rw[hw] at f2;obtain⟨c9,o9,rfl,f9,j2,f6⟩:∃c o,ob=some c/\s.fr 9=.os c o 2 0 (W.length+1)/\H c=none/\s.H c=some (.row 60 o 2 (List.map pD (W++[y]))):=by
    rcases J with⟨_,_,h⟩|⟨c,o,A,h2,h3,h4⟩
    ·simp at h
    ·rw[jp] at h2
     exact⟨c,o,A,h2,h3,h4⟩
   have gj:=ac.sw y (by simp);obtain⟨⟨gv,dt⟩,p0⟩:=Dz gj;rw[<-hn] at dt;have h7:=Hi ok gj;obtain⟨m,hm⟩:=oX W.length;rw[<-hm] at jp hw f2 f9;have w1:IntKind.i64.wrap (((m+1:Nat):Int) - 1)=(m:Int):=by rw[aP (by omega)];omega
   have q0:=nT ((0:Int)<((m+1:Nat):Int));have ih:=aZ m;have k0:=aX m;have dp:(m:Int)<((m+1:Nat):Int):=by omega
   have mq:(List.map pD (W++[y]))[m]?=some (pD y):=by rw[bI,mO (by rw[aS];omega),aS,hm,wU];rfl
   have l5:(List.map pD (W++[y]))[m]?=some [i64 y.1,i64 y.2]:=mq;refine tq (av f9 q0) ?_;intro U Y O C;refine nR (λB=>YB E n EL LL B/\B.fr 9=.os c9 o9 2 0 (m+1)/\B.fr 12=i64 y.1/\B.fr 13=i64 y.2/\B.H=s.H) ?_ ?_
   ·refine dE (λ_ _ _ _=>False) λU Y=>?_;refine dst (ej f9 w1 ih k0 dp f6 l5) ?_;intro U Y O C
    exact⟨⟨f,M,T,f7,R⟩,f9,rfl,rfl,rfl⟩
   rintro B ⟨⟨a0,g3,g4,g7,g8⟩,g9,bk,bo,gH⟩;refine bW ?_;refine nR (λs3=>YB E n EL LL s3/\s3.fr 9=.os c9 o9 2 0 m/\s3.fr 12=i64 y.1/\s3.fr 13=i64 y.2/\s3.H=s.H) ?_ ?_
   ·refine tq (cA g9 w1 ih k0) ?_;intro U Y O C
    exact⟨by omega,Y _ ⟨⟨a0,g3,g4,g7,g8⟩,rfl,bk,bo,gH⟩⟩
   clear bo bk g9 g8 g7 g4 g3 a0 gH;clear B;rintro B ⟨⟨a0,g3,g4,g7,g8⟩,g9,bk,bo,gH⟩;refine KZ m (b:=c9) (o:=o9) (sz:=2) (ty:=60) (els:=List.map pD (W++[y])) (by rw[gH];exact f6) ?_;have nl:(List.map pD (W++[y])).take m=List.map pD W:=by rw[bI,List.take_left' (by rw[aS,hm])]
   rw[nl,gH];have lb:∀j,j<n->fl j≠c9:=λj hj e=>w j hj (by rw[e]);refine iz (λs3=>YB E n EL LL s3/\s3.fr 12=i64 y.1/\s3.fr 13=i64 y.2/\PrH b H n fl V W (s3.fr 9) s3.H (some c9)) ⟨⟨a0,g3,g4,g7,g8⟩,bk,bo,⟨aQ P j2,λj hj=>(aJ (lb j hj)).trans (u j hj),.inr ⟨c9,o9,rfl,by rw[aS,<-hm];exact g9,j2,aK _ _ _⟩,w⟩⟩ ?_;clear bo bk g9 g8 g7 g4 g3 a0 gH f6 f9 J P u R f7 T M f;clear B;rintro B ⟨⟨f,M,T,f7,R⟩,eq,a6,⟨P,u,J,_⟩⟩;obtain⟨d9,a4⟩:=oX (B.fr 9);rw[<-a4] at J;have ch:y.1.toNat<n:=by omega
   have kc:((y.1.toNat:Nat):Int)=y.1:=by omega
   have hL:=m8 _ ch;have hF:=u _ ch;rw[kc] at hF;by_cases ce:y∈V
   ·have bs:=Mb (xJ.2 (show(y.1,y.2)∈V from ce))
    have gc:=KW (S:=Lp V y.1) (λx hx=>Hi ok (ac.sv _ (xJ.1 hx))) h7;refine tq (bG R eq a6 hL l8 gv dt (bQ hF bs gc)) ?_;intro U Y O C;refine exB ⟨MQ E V UW+W.length,?_,V,W,some c9,rfl,⟨f,M,T,f7,R⟩,⟨P,u,by subst a4;exact J,w⟩,ac.skip ce,by omega⟩;show _<_;omega
   ·have k3:y.2∉Lp V y.1:=λh=>ce (xJ.1 h)
    have km:=Gs k3;have dy:=Cv k3;have gc:=KW (S:=Lp V y.1) (λx hx=>Hi ok (ac.sv _ (xJ.1 hx))) h7;have hB:=qo (λj=>[D.seq 1 ((cT E j).map iD)]) gv dt;have lr:((my n).map λj=>[D.seq 1 ((cT E j).map iD)]).length=n:=by rw[aS,iw]
    have c3:(List.map iD (cT E y.1)).length=(cT E y.1).length:=aS _;have g5:(fl y.1.toNat)≠c9:=λe=>w _ ch (by rw[e]);obtain⟨PE,al⟩:=oX (cT E y.1);rw[<-al] at hB c3;refine tq (bG T R eq a6 hL l8 gv (bG dt hF km dy gc hB lr c3)) ?_;intro U Y O C;have m0:y∈UW:=by rw[it];exact Lj gj
    have ns:=Qe (E:=E) ce m0;rw[<-al] at ns;have l4:∀q∈PE,0<=q/\q<n:=λq hq=>by rw[al] at hq;exact(ho _ (qC.1 hq)).1
    have h9:PrH b H n fl (V++[y]) (W++Aj b E y.1 y.2 0) d9 (B.H.aU (fl y.1.toNat) (.map (SM (Lp V y.1++[y.2])))) (some c9):=by
     refine⟨aQ P (ht _ ch),λj hj=>?_,?_,w⟩
     ·by_cases e:j=y.1.toNat
      ·rw[e,aK,kc,Qt]
      ·rw[aJ (λh=>e (hu _ _ hj ch h)),Xz (by omega)]
       exact u j hj
     ·have:Aj b E y.1 y.2 0=[]:=rfl
      rw[this,bz];exact J.cM λc h=>aJ λe=>g5 (by injection h with h;rw[h,e])
    refine aO PE.length (λj s3=>YB E n EL LL s3/\s3.fr 13=i64 y.2/\s3.fr 115=.seq 1 (PE.map iD)/\s3.fr 116=i64 PE.length/\s3.fr 117=i64 j/\∃ap,PrH b H n fl (V++[y]) (W++Aj b E y.1 y.2 j) (s3.fr 9) s3.H ap) ⟨⟨f,M,T,f7,R⟩,a6,rfl,rfl,rfl,some c9,by subst a4;exact h9⟩ ?_;clear h9 J w u P a4 hF a6 eq R f7 T M f;clear B;rintro j s3 hj ⟨⟨f,M,T,f7,R⟩,a6,a9,a5,aa,ob,⟨P,u,J,w⟩⟩;have gu:=aX j;have ex:=aZ j;by_cases ab:j<PE.length
    case neg=>
     have q1:=lF j PE.length;have ms:j=(cT E y.1).length:=by rw[<-al];omega
     have k6:=ac.add ce;rw[<-hE,<-ms] at k6;have nc:=TS b E y.1 y.2 j;rw[<-al] at nc;refine tq (bQ a5 aa q1) ?_;intro U Y O C;refine exC ⟨MQ E (V++[y]) UW+(W++Aj b E y.1 y.2 j).length,?_,V++[y],W++Aj b E y.1 y.2 j,ob,rfl,⟨f,M,T,f7,R⟩,⟨P,u,J,w⟩,k6,?_⟩
     ·show _<_
      rw[aV];omega
     ·rw[aV,aV]
      simp only[eE];omega
    have q1:=lT j PE.length;have w4:=wS j;have dl:=bT ab;obtain⟨b3,u1⟩:=l4 PE[j] (ao _);have kb:PE[j].toNat<n:=by omega
    have ka:((PE[j].toNat:Nat):Int)=PE[j]:=by omega
    obtain⟨bm,hM⟩:=m7 _ kb;rw[ka] at hM;have c6:=P3 (b:=b) (E:=E) (p:=y.1) (x:=y.2) (j:=j) (by rw[<-al];exact ab);have nb:(cT E y.1)[j]'(by rw[<-al];exact ab)=PE[j]:=by simp only[al]
    rw[nb] at c6;have o0:=P2 b E y.1 y.2 j;obtain⟨q,hq⟩:=oX PE[j];rw[<-hq] at dl b3 u1 kb ka hM c6;obtain⟨d9,a4⟩:=oX (s3.fr 9);rw[<-a4] at J;have o3:(W++Aj b E y.1 y.2 j).length+1<=1000000000000:=by rw[aV];omega
    have ol:q∈PE:=by rw[hq];exact ao _
    clear hq;by_cases c0:yU b q=some y.2
    ·rw[aD c0,bz] at c6
     rw[c0] at hM;simp only[xo,LH,LG] at hM;refine tn (bG f7 a6 a9 a5 aa q1 w4 (bG dl gu ex ab c3 hM l7 (av b3 u1))) ?_;exact⟨ab,⟨f,M,T,f7,R⟩,a6,a9,a5,rfl,ob,P,u,by rw[c6];subst a4;exact J,w⟩
    have i2:Aj b E y.1 y.2 (j+1)=Aj b E y.1 y.2 j++[(q,y.2)]:=by rw[c6,aC c0]
    cases hdq:yU b q with
    |none=>
     rw[hdq] at hM
     simp only[xo,LH,LG] at hM
     refine tq (bG f7 a6 a9 a5 aa q1 w4 (bG dl gu ex ab c3 hM l7 (av b3 u1))) ?_;intro U Y O C
     rw[<-a4]
     refine ax (e:=60) qm rfl qm rfl Bi rfl (by decide) P J (new:=[pD (q,y.2)]) (by exact⟨rfl,rfl⟩) (by rw[aS];show(_+1) * 16<=_;omega) λd H8 ar b2 aw am=>?_
     have bt:List.map pD (W++Aj b E y.1 y.2 (j+1))=List.map pD (W++Aj b E y.1 y.2 j)++[pD (q,y.2)]:=by rw[i2,<-bE,bI];rfl
     rw[<-bt] at b2
     have be:∀i,i<n->H8 (fl i)=some (.map (SM (Lp (V++[y]) i)))/\ar≠some (fl i):=λi hi=>am _ _ (u i hi) (w i hi)
     refine tn (av aa w4) ?_
     exact⟨ab,⟨f,M,T,f7,R⟩,a6,a9,a5,rfl,ar,aw,λi hi=>(be i hi).1,b2,λi hi=>(be i hi).2⟩
    |some v=>
     rw[hdq] at hM c0
     simp only[xo,LH,LG] at hM
     have qv:(v=y.2)=False:=aI λe=>c0 (by rw[e])
     refine tq (bG f7 a6 a9 a5 aa q1 w4 (bG dl gu ex ab c3 hM l7 (bQ b3 u1 qv))) ?_;intro U Y O C
     rw[<-a4]
     refine ax (e:=60) qm rfl qm rfl Bi rfl (by decide) P J (new:=[pD (q,y.2)]) (by exact⟨rfl,rfl⟩) (by rw[aS];show(_+1) * 16<=_;omega) λd H8 ar b2 aw am=>?_
     have bt:List.map pD (W++Aj b E y.1 y.2 (j+1))=List.map pD (W++Aj b E y.1 y.2 j)++[pD (q,y.2)]:=by rw[i2,<-bE,bI];rfl
     rw[<-bt] at b2
     have be:∀i,i<n->H8 (fl i)=some (.map (SM (Lp (V++[y]) i)))/\ar≠some (fl i):=λi hi=>am _ _ (u i hi) (w i hi)
     refine tn (av aa w4) ?_
     exact⟨ab,⟨f,M,T,f7,R⟩,a6,a9,a5,rfl,ar,aw,λi hi=>(be i hi).1,b2,λi hi=>(be i hi).2⟩
 clear m7 l7 i3 i1 w J u P R f7 T M f gt cc;rintro s ⟨f,M,R,V,P,u,ci,o7,m1⟩;refine tq M ?_;intro U Y O C;refine⟨cv,by omega,by omega,λcl ed=>?_⟩;refine Y _ ?_;have ea:=gA P ed;refine tn (av R l8) ?_;refine aO n (λi s'=>s'.df=[]/\s'.fr 16=.os cl 0 1 0 n/\s'.fr 145=.seq 1 LL/\s'.fr 146=i64 n/\s'.fr 147=i64 i/\H.le s'.H/\s'.H cl=some (.row 37 0 1 (M9 V n i))/\∀j,i<=j->j<n->s'.H (fl j)=some (.map (SM (Lp V j)))) ⟨f,rfl,rfl,rfl,rfl,aQ P ea,by rw[Ma];exact aK _ _ _,λj _ hj=>(aJ (λe=>by have:=u j hj;rw[e,ed] at this;cases this)).trans (u j hj)⟩ ?_;clear ed u P R M f;clear s;rintro i s hi ⟨f,er,dv,bf,bi,P,hr,u⟩;have hx:=aX i;have ak:=aZ i;by_cases I:i<n
 case neg=>
  have q1:=nF ((i:Int)<(n:Int));have bs:i=n:=by omega
  subst bs;refine ur aB (cA er bf bi q1) f ?_;exact⟨_,aF _,P,_,nY (k:=0) P hr ea (by rw[Ct];omega),V,m1,ci,by rw[dj,bK (by rw[Ct];omega),Qz]⟩
 have ag:(i:Int)<(n:Int):=by omega
 have q1:((i:Int)<(n:Int))=True:=aG ag;have w3:=wS i;have hL:=m8 i I;have n6:cl≠fl i:=λe=>by have:=u i (bh _) I;rw[<-e,hr] at this;cases this
 refine Bn (fl i) (SV (Lp V i)) (u i (bh _) I) λes dx n5=>?_;obtain⟨Hh,bb⟩:=oX (s.H.aU (fl i) (.obj (.map es dx)));rw[<-bb];have kw:H.le Hh:=by rw[bb];exact aQ P (ht i I)
 have k9:Hh cl=some (.row 37 0 1 (M9 V n i)):=by rw[bb,aJ n6];exact hr
 have k4:Hh (fl i)=some (.obj (.map es dx)):=by rw[bb,aK]
 have j4:∀j,i+1<=j->j<n->Hh (fl j)=some (.map (SM (Lp V j))):=λj A h2=>by rw[bb,aJ (λe=>by have:=hu _ _ h2 I e;omega)];exact u j (by omega) h2
 have o6:=VO V i;have n8:=Ct V n i;have n7:=RA V I;clear bb;refine tq (bG er dv bf bi q1 hL l8 (cA hx ak I ag)) ?_;intro U Y O C;refine(SU (fl i) _).qt ?_;intro U Y O C;refine(MB (OZ (Lp V i) (fl i) es dx n5) (Lp V i) Hh (λH' h=>h _ _ k4) (λHc h=>h _ _ k4) (λl h=>by obtain⟨r,hr⟩:=h;have:=hr.length_eq;rw[aV] at this;omega) (λl h=>h) (by omega)).mono ?_;rintro d _ ⟨rfl,rfl⟩;refine tn (bG k9 n8 n7 hx ak I ag (av bi w3)) ?_;exact⟨I,f,er,dv,bf,rfl,aQ kw ea,by rw[<-RB];exact aK _ _ _,λj A h2=>(aJ (λe=>by have:=j4 j A h2;rw[e,k9] at this;cases this)).trans (j4 j A h2)⟩
end Go.Proofs.YtffgfafbffdgaaaGreatDoor
