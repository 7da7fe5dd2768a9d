/- Lemmas and contracts of functions, several texts in one. -/
import Derived.Shelf.Sort.Plain
import Derived.Shelf.Slices.In.SortNone
import Derived.Test.YtffgfafbffdgaaaGreatDoorR27
set_option maxRecDepth 100000
set_option maxHeartbeats 4000000
set_option linter.all false
namespace Go.Proofs.YtffgfafbffdgaaaGreatDoor
open Go.RowKit
open Tryz
variable {l:List Int}{i b:Nat}
def FJ (acc:List Int) (x:Int):List Int:=if acc.getLast?=some x then acc else acc++[x]
def mC (l:List Int):List Int:=l.foldl FJ []
theorem pw (l:List Int)(x:Int):mC (l++[x])=FJ (mC l) x:=by unfold mC;rw[mX];rfl
theorem Kk (acc:List Int)(x:Int):(FJ acc x).getLast?=some x:=by
 unfold FJ;split
 ·assumption
 ·simp
theorem Kl (h:i<l.length):(mC (l.take (i+1))).getLast?=some l[i]:=by rw[bw h,pw,Kk]
theorem CC (h:i+1<l.length):mC (l.take (i+1+1))=if l[i]=l[i+1] then mC (l.take (i+1)) else mC (l.take (i+1))++[l[i+1]]:=by
 rw[bw h,pw];have a:=Kl (l:=l) (i:=i) (by omega);unfold FJ;rw[a];simp only[iJ]
theorem vM {x:Int}:x∈mC l↔x∈l:=by
 induction l using qI with
 |h0=>exact Iff.rfl
 |h1 l a d=>
  rw[pw,bB,bM,<-d]
  unfold FJ
  split
  ·rename_i h
   exact⟨.inl,λc=>c.elim id λe=>e▸wK h⟩
  ·rw[bB,bM]
theorem NJ (l:List Int):(mC l).length<=l.length:=by
 induction l using qI with
 |h0=>exact bh _
 |h1 l a c=>
  rw[pw,aV]
  unfold FJ
  split
  ·simp;omega
  ·rw[aV];simp;omega
theorem xg (h:l.Pairwise (·<=·)):(mC l).Pairwise (·<·):=by
 induction l using qI with
 |h0=>exact List.Pairwise.nil
 |h1 l a n=>
  rw[nj] at h
  have h1:=n h.1
  rw[pw]
  unfold FJ
  split
  ·exact h1
  ·rename_i d
   rw[nj]
   refine⟨h1,by simp,λx hx y j=>?_⟩
   rw[bM] at j
   subst j
   have k:=h.2.2 x (vM.1 hx) y (by simp)
   rcases Int.lt_or_eq_of_le k with h3|h3
   ·exact h3
   ·subst h3
    exfalso
    apply d
    obtain⟨q,f⟩:∃q,(mC l).getLast?=some q:=by
     cases e:(mC l).getLast? with
     |none=>rw[List.getLast?_eq_none_iff] at e;rw[e] at hx;cases hx
     |some q=>exact⟨q,rfl⟩
    have g:=wK f
    have m:=h.2.2 q (vM.1 g) x (by simp)
    obtain⟨o,c⟩:=List.getLast?_eq_some_iff.1 f
    rw[c,bB,bM] at hx
    rcases hx with hx|hx
    ·rw[c,nj] at h1
     have:=h1.2.2 x hx q (by simp)
     omega
    ·rw[f,hx]
theorem G8 (H:aA)(b:Nat)(x y:cY):(H.aU b x).aU b y=H.aU b y:=by
 funext c;by_cases e:c=b
 ·rw[e,aK,aK]
 ·rw[aJ e,aJ e,aJ e]
theorem BJ {H:aA}{x:cY}(h:H b=some x):H.aU b x=H:=by
 funext c;by_cases e:c=b
 ·rw[e,aK,h]
 ·rw[aJ e]
theorem xi (H:aA):aN prog 245 [.val (.slice none 0 0)] H λd H'=>d=.val (.slice none 0 0)/\H=H':=by
 refine dO func245 ntmps245 results245 λe c Q a=>?_;refine u0 a ?_;exact⟨_,aF _,by first|rfl|exact⟨rfl,rfl⟩⟩
theorem xj {H:aA}{o:Nat}{T:TypeId}(hb:H b=some (.row T o 1 (l.map iD)))(hl:l.length<=140737488351232):
  aN prog 245 [.os b o 1 0 l.length] H λd H'=>d=.os b o 1 0 (mC l).length/\∃c:List Int,H'=H.aU b (.row T o 1 (c.map iD))/\c.take (mC l).length=mC l:=by
 have t:=lm iD l;refine dO func245 ntmps245 results245 λw0 J Q aB=>?_;by_cases h2:l.length<2
 ·have q1:=nT ((l.length:Int)<2)
  have p:mC l=l:=by
   match l,h2 with
   |[],_=>rfl
   |[a],_=>rfl
  refine ur aB (av t q1) trivial ?_;exact⟨_,aF _,by rw[p],l,(BJ hb).symm,by rw[p,dI]⟩
 have q1:=nF ((l.length:Int)<2);refine tn (av t q1) ?_;refine aO (l.length - 1) (λi s=>s.df=[]/\s.fr 0=.os b o 1 0 l.length/\s.fr 3=i64 ((i+1:Nat):Int)/\s.H=H/\i+1<=l.length/\mC (l.take (i+1))=l.take (i+1)) ⟨rfl,rfl,rfl,rfl,by omega,by rw[bw (show 0<l.length by omega)] <;> rfl⟩ ?_;rintro i s hi ⟨P,E,F,hH,ak,q⟩;have a4:s.H b=some (.row T o 1 (l.map iD)):=by rw[hH];exact hb
 by_cases wZ:i+1<l.length
 case neg=>
  have X:=nF (((i+1:Nat):Int)<(l.length:Int));rw[bK (by omega)] at q;refine ur aB (bQ E F X) P ?_;exact⟨_,aF _,by rw[q],l,by rw[hH];exact(BJ hb).symm,by rw[q,dI]⟩
 have X:=nT (((i+1:Nat):Int)<(l.length:Int));have hx:((i+1:Nat):Int).toNat=i+1:=aX _;have a7:=aX i;have L:(0:Int)<=((i+1:Nat):Int):=aZ _;have a1:=aZ i;have g:=bT wZ;have f:=bT (show i<l.length by omega);have a0:i<l.length:=by omega
 have q3:=lT i l.length;have w1:IntKind.i64.wrap (((i+1:Nat):Int) - 1)=(i:Int):=by rw[aP (by omega)];omega
 have w2:IntKind.i64.wrap (((i+1:Nat):Int)+1)=((i+1+1:Nat):Int):=by rw[aP (by omega)];omega
 have B:=CC wZ;by_cases he:l[i]=l[i+1]
 case neg=>
  have q4:(l[i+1]=l[i])=False:=aI λe=>he e.symm;rw[aC he] at B;refine tq (bQ E F X) ?_;intro U Y O C;refine dE (λ_ _ _ _=>False) λU Y=>?_;refine dst (bG E F a4 g f hx a7 (bG L a1 wZ a0 t X q3 (av q4 w1))) ?_;intro U Y O C;refine tn (av F w2) ?_;exact⟨by show i<l.length - 1;omega,P,E,rfl,hH,by omega,by rw[B,q,<-bw wZ]⟩
 have q4:(l[i+1]=l[i])=True:=aG he.symm;rw[aD he] at B;refine tq (bQ E F X) ?_;intro U Y O C;refine dE (λ_ _ _ _=>False) λU Y=>?_;refine dst (bG E F a4 g f hx a7 (bG L a1 wZ a0 t X q3 (av q4 w1))) ?_;intro U Y O C;have q5:=nT (((i+1:Nat):Int)<=(l.length:Int));refine tq (ej E F X hx L t q5) ?_;intro U Y O C;obtain⟨n2,ae⟩:=oX (l.length - (i+1));rw[<-ae];refine aO (n2 - 1) (λj s=>s.df=[]/\s.fr 0=.os b o 1 0 l.length/\s.fr 4=.os b o 1 (i+1) n2/\s.fr 5=i64 ((j+1:Nat):Int)/\j+1<=n2/\∃(c:List Int) (k:Nat),s.H=H.aU b (.row T o 1 (c.map iD))/\c.length=l.length/\s.fr 3=i64 k/\c.take k=mC (l.take (i+1+j+1))/\(∀m (h:m<l.length) (h':m<c.length),i+1+j<=m->c[m]=l[m])/\k<=i+1+j) ⟨P,E,rfl,rfl,by omega,l,i+1,by show s.H=_;rw[hH];exact(BJ hb).symm,rfl,F,by show _=mC (l.take (i+1+1));rw[B,q],λ_ _ _ _=>rfl,by omega⟩ ?_;rintro j s2 hj ⟨I,J,G,K,al,c,k,A,p,g3,u,v,am⟩;have z:s2.H b=some (.row T o 1 (c.map iD)):=by rw[A];exact aK _ _ _
 have w:=lm iD c;by_cases R:j+1<n2
 case neg=>
  have Z:=nF (((j+1:Nat):Int)<(n2:Int));have ac:i+1+j+1=l.length:=by omega
  rw[ac,dI] at u;have S:k=(mC l).length:=by rw[<-u,bX];omega
  have q7:=nT ((k:Int)<=(l.length:Int));have W:=aX k;have N:=aZ k;have r:k<=c.length:=by omega
  refine ur aB (bG J g3 G K Z q7 W (cw N z w r @tP)) I ?_;have ag:(mC l).length<=c.length:=by have:=NJ l;omega
  exact⟨_,aF _,by rw[S],mC l,by rw[A,G8,<-iK,u],dI⟩
 have Z:=nT (((j+1:Nat):Int)<(n2:Int));have a6:i+1+j+1<l.length:=by omega
 have g:(c.map iD)[i+1+(j+1)]?=some [.val (.int .i64 c[i+1+j+1])]:=bT (show i+1+j+1<c.length by omega);have f:=bT (show i+1+j<c.length by omega);rw[v _ a6 (by omega) (by omega)] at g;rw[v _ (show i+1+j<l.length by omega) (by omega) (by omega)] at f;have V:((j+1:Nat):Int).toNat=j+1:=aX _;have a3:=aX j;have M:(0:Int)<=((j+1:Nat):Int):=aZ _;have a2:=aZ j;have q7:=nT ((j:Int)<(n2:Int));have a5:j<n2:=by omega
 have w3:IntKind.i64.wrap (((j+1:Nat):Int) - 1)=(j:Int):=by rw[aP (by omega)];omega
 have w4:IntKind.i64.wrap (((j+1:Nat):Int)+1)=((j+1+1:Nat):Int):=by rw[aP (by omega)];omega
 have w5:=wS k;have n:=CC (l:=l) (i:=i+1+j) a6;obtain⟨x,a8⟩:=oX (l[i+1+j]);obtain⟨y,a9⟩:=oX (l[i+1+j+1]);rw[<-a9] at g;rw[<-a8] at f;rw[<-a8,<-a9] at n;by_cases D:x=y
 ·have q8:(y=x)=True:=aG D.symm
  rw[aD D] at n;refine tq (cw J g3 G K Z) ?_;intro U Y O C;refine dE (λ_ _ _ _=>False) λU Y=>?_;refine dst (bG G K z g f V a3 (bG M a2 R a5 w Z q7 (av q8 w3))) ?_;intro U Y O C;refine tn (av K w4) ?_;exact⟨by show j<n2 - 1;omega,I,J,G,rfl,by omega,c,k,A,p,g3,by rw[show i+1+(j+1)+1=i+1+j+1+1 by omega,n];exact u,λm h h' hm=>v m h h' (by omega),by omega⟩
 ·have q8:(y=x)=False:=aI λe=>D e.symm
  rw[aC D] at n;have W:=aX k;have N:=aZ k;have S:k<l.length:=by omega
  have ab:=lT k l.length;have r:k<c.length:=by omega
  have ad:=bT r;refine tq (cw J g3 G K Z) ?_;intro U Y O C;refine dE (λ_ _ _ _=>False) λU Y=>?_;refine dst (bG G K z g f V a3 (bG M a2 R a5 w Z q7 (av q8 w3))) ?_;intro U Y O C;refine tq (bG J g3 G K Z q7 q8 (bG w4 w5 z g f ad V (bG M W N S ab r R w))) ?_;intro U Y O C;have aa:(List.map iD c).set k [.val (.int .i64 y)]=(c.set k y).map iD:=by rw[List.map_set];rfl
  refine⟨by show j<n2 - 1;omega,I,J,G,rfl,by omega,c.set k y,k+1,by show s2.H.aU b _=_;rw[A,G8,<-aa],by rw[mA];exact p,rfl,?_,λm h h' hm=>?_,by omega⟩
  ·rw[show i+1+(j+1)+1=i+1+j+1+1 by omega,n,bw (by rw[mA];exact r),zG (bh _),u,List.getElem_set_self]
  ·rw[List.getElem_set_ne (by omega)]
   exact v m h (by rw[mA] at h';exact h') (by omega)
end Go.Proofs.YtffgfafbffdgaaaGreatDoor
namespace Go.Proofs.YtffgfafbffdgaaaGreatDoor
open Go.RowKit Go.Sort
end Go.Proofs.YtffgfafbffdgaaaGreatDoor
namespace Go.Proofs.YtffgfafbffdgaaaGreatDoor
open Go.RowKit
open Tryz
variable {G:Gr}{i k n a id c7 c8 c bl:Nat}{b:bn}{s:St}{H Hs:aA}{EL LL:List (List D)}{fl:Nat->Nat}
def IQ (G:Gr) (l:List Int):List Int:=l.flatMap λ(t:Int)=>if 0<=t/\t<G.length then [(dG G t.toNat:Int)] else []
theorem QH (G:Gr)(l:List Int)(t:Int):IQ G (l++[t])=IQ G l++(if 0<=t/\t<G.length then [(dG G t.toNat:Int)] else []):=by unfold IQ;rw[gb];simp
theorem UI (G:Gr)(l:List Int):(IQ G l).length<=l.length:=by
 induction l with
 |nil=>simp [IQ]
 |cons t l d=>
  have:IQ G (t::l)=(if 0<=t/\t<G.length then [(dG G t.toNat:Int)] else [])++IQ G l:=rfl
  rw[this,aV,bx]
  split <;> simp <;> omega
theorem Ss {l:List Int}{q:Int}:q∈IQ G l↔∃t∈l,0<=t/\t<G.length/\q=dG G t.toNat:=by
 unfold IQ;rw[la];constructor
 ·rintro⟨t,e,h⟩
  split at h
  ·rename_i d
   exact⟨t,e,d.1,d.2,by simpa using h⟩
  ·cases h
 ·rintro⟨t,e,d,f,rfl⟩
  exact⟨t,e,by rw[aD ⟨d,f⟩];simp⟩
theorem XA {p:Int}(h:At G p i k)(hi:i<G.length)(hk:k<G[i].1):Gf G p=[p+1]:=by
 refine qK (A8 G p) (by simp) λq=>?_;rw[yl,Nv h,bM];obtain⟨_,_,d⟩:=h;constructor
 ·rintro⟨_,⟨_,e⟩|⟨e,_⟩⟩ <;> omega
 ·intro e;exact⟨hi,.inl ⟨hk,by omega⟩⟩
theorem TF {p:Int}(h:At G p i k)(hi:i<G.length)(hk:k=G[i].1):mC (dL (IQ G G[i].2))=Gf G p:=by
 refine qK (xg (vr _)) (A8 G p) λq=>?_;rw[vM,sx,Ss,yl,Nv h];constructor
 ·rintro h;exact⟨hi,.inr ⟨hk,h⟩⟩
 ·rintro⟨_,⟨e,_⟩|⟨_,d⟩⟩
  ·omega
  ·exact d
theorem ZJ (b:kz)(p:Int)(i k:Nat)(H:aA)(J:At b.g p i k)(hc:bu b.g<=1000000)(al:∀x∈b.bl,x.tg.length<=1000000):aN prog 175 [.agg (lK b),.seq 1 ((E8 b.g (b.bl.length+1)).map iD),.agg [i64 i,i64 k]] H λd H'=>d=.seq 1 ((Gf b.g p).map iD)/\H=H':=by
 refine aq (K:=λd=>d=.seq 1 ((Gf b.g p).map iD)) ?_;have L:=wj b;have b3:=pq hc;have a2:(List.map iD (E8 b.g (b.bl.length+1))).length=b.bl.length+1:=by rw[aS,ng]
 obtain⟨v,hk,b2⟩:=YR.1 J;have a1:i<b.g.length:=by rw[b.oy];exact v
 have a6:(i:Int)<b.bl.length:=by omega
 have a8:(i:Int)<((b.bl.length+1:Nat):Int):=by omega
 have hx:=aX i;have Z:=aZ i;have M:=vD v;have ak:=qF hc v;have ap:=al b.bl[i] (ao v);have ad:=vv b.g (show i<b.bl.length+1 by omega);have N:=XA J a1;have P:=TF J a1;rw[b.F5 v] at N P;obtain⟨x,ar⟩:=oX b.bl[i];rw[<-ar] at M hk ak ap N P;simp only[xC] at M;refine dO func175 ntmps175 results175 λw0 g0 Q aB=>?_;refine tq @lK.eq_1 ?_;intro U Y O C;intro c3 aa W a0;have a3:c3≠W:=lj (aK _ _ _) a0;have a7:H W=none:=(bF.1 a0).2;refine Y _ ?_;refine dZ 3 rfl ((aJ a3).trans (aK _ _ _)) rfl ?_;refine dZ 5 rfl ((bL a3.symm).trans (aK _ _ _)) rfl ?_;refine lB H (λx z hz=>?_) ?_
 ·have B:x≠c3:=λe=>by rw[e,aa] at hz;cases hz
  have e2:x≠W:=λe=>by rw[e,a7] at hz;cases hz
  show((((H.aU c3 _).aU W _).del c3).del W) x=_;rw[bL e2,bL B,aJ e2,aJ B];exact hz
 simp only[St.ku,List.drop];refine tq (eP M hx Z v a6 L) ?_;intro U Y O C;intro c7 ab;refine Y _ ?_;refine cm 7 ab ?_;by_cases ag:k<x.st.length
 ·have q1:=lT k x.st.length
  have w1:IntKind.i64.wrap ((dG b.g i:Int)+(k:Int))=p:=by rw[aP (by omega)];omega
  have w2:IntKind.i64.wrap (p+1)=p+1:=by rw[aP (by omega)]
  have e:=N ag;refine tq q1 ?_;intro U Y O C;refine dE (λ_ _ _ _=>False) λU Y=>?_;refine dst (ej ad hx Z a8 a2 w1 w2) ?_;intro U Y O C;refine u0 aB ?_;exact⟨_,aF _,aF _,_,aL (aF _),by rw[e] <;> rfl⟩
 have q1:=lF k x.st.length;have e:=P (by show k=x.st.length;omega);have F:=lm iD x.tg;refine tn (av q1 F) ?_;refine aO x.tg.length (λj s=>s.df=[]/\s.fr 1=.seq 1 ((E8 b.g (b.bl.length+1)).map iD)/\s.fr 3=.rp (lK b)/\s.fr 35=.seq 1 (x.tg.map iD)/\s.fr 36=i64 x.tg.length/\s.fr 37=i64 j/\H.le s.H/\∃ob,Gl H 3 1 ((IQ b.g (x.tg.take j)).map iD) (s.fr 8) s.H ob) ⟨rfl,rfl,rfl,rfl,rfl,rfl,aF _,none,eB _ _ _ _⟩ ?_;rintro j s hj ⟨y,f1,S,u,l,w,V,ob,hg⟩;simp only[lK] at S;have R:=aX j;have I:=aZ j;have a5:=UI b.g (x.tg.take j);rw[bX] at a5;by_cases f:j<x.tg.length
 case neg=>
  have q2:=lF j x.tg.length;rw[bK (by omega)] at hg a5;refine tq (bQ l w q2) ?_;intro U Y O C;rcases hg with⟨_,B,e2⟩|⟨c,o,e0,B,e2,e3⟩
  ·have r:IQ b.g x.tg=[]:=by simpa using e2
   rw[B];refine(vt _).qs B ?_;intro U Y O C;refine(xi _).q ?_;refine ur aB trivial y ?_;exact⟨_,aF _,V,.seq 1 [],iq,by rw[<-e,r];simp [dL,mC]⟩
  ·rw[aS] at B
   rw[B];refine(vu e3 (by omega)).mono ?_;rintro d _ ⟨rfl,rfl⟩;refine tq B ?_;intro U Y O C;have h5:((s.H.aU c (.row 3 o 1 ((dL (IQ b.g x.tg)).map iD))) c)=some (.row 3 o 1 ((dL (IQ b.g x.tg)).map iD)):=aK _ _ _;have h6:=xj h5 (by rw[dw];omega);rw[dw] at h6;refine h6.mono ?_;rintro d _ ⟨rfl,X,rfl,T⟩;refine ur aB trivial y ?_;have A:H.le (s.H.aU c (.row 3 o 1 (X.map iD))):=aQ V e2;have b0:(mC (dL (IQ b.g x.tg))).length<=X.length:=by have:=ai List.length T;rw[bX] at this;omega
   exact⟨_,aF _,A,_,nY (k:=0) A (aK _ _ _) e2 (by rw[aS];omega),by rw[dj,<-iK,T,e]⟩
 have q2:=lT j x.tg.length;have D:=bT f;have w4:=wS j;have a4:=bw f;obtain⟨t,am⟩:=oX x.tg[j];rw[<-am] at D a4;have m:=QH b.g (x.tg.take j) t;rw[<-a4,b.oy] at m;by_cases r:0<=t
 case neg=>
  have q3:(0<=t)=False:=aI r;rw[aC λh=>r h.1,bz] at m;refine tn (bG u l w q2 q3 D R (cA I f F w4)) ?_;exact⟨f,y,f1,S,u,l,rfl,V,ob,by rw[m];exact hg⟩
 have q3:(0<=t)=True:=aG r;by_cases E:t<b.bl.length
 case neg=>
  have q4:(t<(b.bl.length:Int))=False:=aI E;rw[aC λh=>E h.2,bz] at m;refine tn (bG S u l w q2 q3 q4 (ej D R I f F L w4)) ?_;exact⟨f,y,f1,S,u,l,rfl,V,ob,by rw[m];exact hg⟩
 have q4:(t<(b.bl.length:Int))=True:=aG E;rw[aD ⟨r,E⟩] at m;have ae:=vv b.g (show t.toNat<b.bl.length+1 by omega);have a9:t<((b.bl.length+1:Nat):Int):=by omega
 refine tq (bG f1 S u l w q2 q3 (bG q4 D R I f F L (cA ae r a9 a2))) ?_;intro U Y O C;refine ax (e:=3) fk rfl fk rfl yv rfl (by decide) V hg (new:=[iD (dG b.g t.toNat:Int)]) (by exact⟨rfl,rfl⟩) (by rw[aS];show(_+1) * 8<=_;omega) λd H6 aw ac A b1=>?_;refine tq (av w w4) ?_;intro U Y O C;refine⟨f,y,f1,S,u,l,rfl,A,aw,?_⟩;rw[m,bI];exact ac
def uJ (G:Gr) (i n:Nat):List (Nat×Nat×Nat):=(List.range n).map λk=>(dG G i+k,i,k)
def qR (G:Gr) (n:Nat):List (Nat×Nat×Nat):=(List.range n).flatMap λi=>uJ G i ((G.getD i (0,[])).1+1)
theorem Bx (G:Gr)(i n:Nat):uJ G i (n+1)=uJ G i n++[(dG G i+n,i,n)]:=by unfold uJ;rw[rG,bI];rfl
theorem wi (h:n<G.length):qR G (n+1)=qR G n++uJ G n (G[n].1+1):=by
 unfold qR;rw[rG,gb];simp [gZ,az h]
theorem C9 {b:Nat}(h:a<=b):∃t,List.range b=List.range a++t:=by
 obtain⟨k,rfl⟩:=Nat.exists_eq_add_of_le h;exact⟨_,List.range_add⟩
theorem My (G:Gr)(i:Nat){b:Nat}(h:a<=b):uJ G i a<+:uJ G i b:=by
 obtain⟨t,d⟩:=C9 h;unfold uJ;rw[d,bI];exact⟨_,rfl⟩
theorem Mo (G:Gr){b:Nat}(h:a<=b):qR G a<+:qR G b:=by
 obtain⟨t,d⟩:=C9 h;unfold qR;rw[d,gb];exact⟨_,rfl⟩
theorem RR (h:i<G.length)(hk:k<=G[i].1+1):qR G i++uJ G i k<+:qR G G.length:=by
 refine List.IsPrefix.trans ?_ (Mo G (show i+1<=G.length by omega));rw[wi h];exact(List.prefix_append_right_inj _).2 (My G i hk)
def ptD (x:Nat×Nat×Nat):List D:=[i64 x.1,.agg [i64 x.2.1,i64 x.2.2]]
theorem Vb (b:kz)(hc:bu b.g<=1000000):BY prog 250 [.rp (lK b)] ptD (qR b.g b.g.length) λ_=>True:=by
 have y:=wj b;have a0:=pq hc;refine yg _ func250 rfl rfl ntmps250 results250 (by simp) λl J Jx H w0 p Q dC hJ hY V=>?_;refine tn (bQ @lK.eq_1 @yD.eq_1 y) ?_;refine aO b.bl.length (λi s=>s.df=[]/\s.fr 0=yD l/\s.fr 3=i64 (dG b.g i)/\s.fr 8=.seq 7 (b.bl.map xC)/\s.fr 9=i64 b.bl.length/\s.fr 10=i64 i/\J (qR b.g i) s.H) ⟨rfl,rfl,rfl,rfl,rfl,rfl,hJ⟩ ?_;rintro i s hi ⟨z,f0,f3,W,F,o,hj⟩;have hx:=aX i;have K:=aZ i;by_cases d:i<b.bl.length
 case neg=>
  have S:=lF i b.bl.length;have e:i=b.g.length:=by rw[b.oy];omega
  subst e;refine tq (bQ F o S) ?_;intro U Y O C;exact V _ _ (.inl rfl) z (.inl hj)
 have S:=lT i b.bl.length;have E:(i:Int)<b.bl.length:=by omega
 have r:=vD d;have P:=qF hc d;have N:=sI b d;have A:i<b.g.length:=by rw[b.oy];exact d
 have m:=λk=>RR (G:=b.g) (i:=i) (k:=k) A;have j:=wi A;rw[b.F5 d] at m j;obtain⟨x,R⟩:=oX b.bl[i];rw[<-R] at r P N m j;simp only at m j;simp only[xC] at r;have w1:IntKind.i64.wrap ((x.st.length:Int)+1)=((x.st.length+1:Nat):Int):=by rw[aP (by omega)];omega
 have w3:=wS i;refine tq (bG W F o S r hx K (bQ d E y)) ?_;intro U Y O C;intro c5 L;refine Y _ ?_;refine cm 5 L ?_;refine tn w1 ?_;refine aO (x.st.length+1) (λk s=>s.df=[]/\s.fr 0=yD l/\s.fr 3=i64 (dG b.g i+k:Nat)/\s.fr 4=i64 i/\s.fr 8=.seq 7 (b.bl.map xC)/\s.fr 9=i64 b.bl.length/\s.fr 10=i64 i/\s.fr 18=i64 (x.st.length+1:Nat)/\s.fr 19=i64 k/\J (qR b.g i++uJ b.g i k) s.H) ⟨z,f0,f3,rfl,W,F,o,rfl,rfl,by unfold uJ;rw[List.range_zero,fw,bz];exact hj⟩ ?_;rintro k s2 hk ⟨q,p,u,w,X,Z,v,f,h,I⟩;by_cases M:k<x.st.length+1
 case neg=>
  have T:=nF ((k:Int)<((x.st.length+1:Nat):Int));have e:k=x.st.length+1:=by omega
  subst e;rw[<-j] at I;have e2:dG b.g i+(x.st.length+1)=dG b.g (i+1):=by omega
  rw[e2] at u;refine tn (cw v f h T w3) ?_;exact⟨d,q,p,u,X,Z,rfl,I⟩
 have T:=nT ((k:Int)<((x.st.length+1:Nat):Int));have w4:IntKind.i64.wrap (((dG b.g i+k:Nat):Int)+1)=((dG b.g i+(k+1):Nat):Int):=by rw[aP (by omega)];omega
 have w5:=wS k;have B:=m (k+1) (by omega);rw[Bx,<-bE] at B;(iterate 11 (refine tk (eP p u w f h T) ?_;intro U Y O C));refine x9 (5) (by kernel_rfl) ?_;simp (maxSteps:=4000000) only[vX,vB,vT,vZ,ij,fh,Fp,yk,AX,gV,fE,fj,↓iR,yb,cU,DJ,ze,By,oi,od,pn,po,ki,j8,kh,ic,D.nilPtr,D.iM,D.iF,fH,Bj,CE,wX,gy,jw,fieldsOf,gU,B6,B7,B8,B9,sL,BT,D.cells,jx,DE,DB,pv,eK,eH,B3,BR,jd,EC,rS,Be,gP,TD.gX,TD.agg,Eo,rU,oe,FI,nZ,pY,pX,Ba,B5,mF,pZ,dR,eT,Value.oneCell',iX,iV,gp,reduceCtorEq,kY,iZ,dN,dY,↓reduceIte,Nat.reduceEqDiff,Int.reduceLE,Int.reduceLT,Int.reduceNeg,Int.reduceToNat,Nat.reduceAdd,Nat.reduceMul,Nat.reduceLeDiff,Nat.reduceMod,Nat.reduceSub,Int.reduceEq,Int.reduceNe,Int.reduceAdd,Int.reduceSub,Int.reduceMul,iW,Gz,p,u,w,f,h,i64];refine lA rfl (oI (qR b.g i++uJ b.g i k) (dG b.g i+k,i,k) rfl rfl rfl (by simp [qP]) hY B I rfl (λH' t=>?_) λH' t=>?_)
 ·refine tn (ej p u w f h w4 w5) ?_
  exact⟨M,q,p,rfl,w,X,Z,v,f,rfl,by rw[Bx,<-bE];exact t⟩
 ·refine tq (cw p u w f h) ?_;intro U Y O C
  exact V _ _ (.inr rfl) q (.inr ⟨_,t⟩)
theorem YN (b:kz)(H:aA):aN prog 174 [.agg (lK b)] H λd H'=>d=.fn 250 [.rp (lK b)]/\H=H':=by
 refine dO func174 ntmps174 results174 λj h Q f=>?_;refine tq @lK.eq_1 ?_;intro U Y O C;intro g e;refine Y _ ?_;refine cm 1 e ?_;refine u0 f ?_;exact⟨_,aF _,rfl,rfl⟩
theorem Ov {x:Nat×Nat×Nat}:x∈qR G n↔x.2.1<n/\x.2.2<=(G.getD x.2.1 (0,[])).1/\x.1=dG G x.2.1+x.2.2:=by
 unfold qR uJ;rw[la];constructor
 ·rintro⟨i,d,h⟩
  obtain⟨k,g,rfl⟩:=cD.1 h;rw[ib] at d g;exact⟨d,by simp only;omega,rfl⟩
 ·rintro⟨e,j,f⟩
  exact⟨x.2.1,ib.2 e,cD.2 ⟨x.2.2,ib.2 (by omega),by rw[<-f]⟩⟩
noncomputable def vO (G:Gr) (l:List (Nat×Nat×Nat)):List (Int×Int):=l.flatMap λx=>(Gf G x.1).map λq=>((x.1:Int),q)
theorem LF (G:Gr)(l:List (Nat×Nat×Nat))(x:Nat×Nat×Nat):vO G (l++[x])=vO G l++(Gf G x.1).map λq=>((x.1:Int),q):=by unfold vO;rw[gb];simp
theorem Mx (G:Gr)(i n:Nat):(uJ G i n).map (·.1)=(List.range n).map λk=>dG G i+k:=by unfold uJ;rw[gL];rfl
theorem zc (G:Gr):∀n,n<=G.length->(qR G n).map (·.1)=List.range (dG G n)
 |0,_=>rfl
 |n+1,h=>by
  rw[wi (by omega),bI,zc G n (by omega),Mx,oB (by omega),rK];exact List.range_add.symm
theorem Nh (G:Gr):vO G (qR G G.length)=oh G:=by
 have d:=zc G G.length (bh _);rw[lJ (bh _)] at d;unfold vO oh my;rw[<-d,gL,zR];rfl
theorem Ni (G:Gr)(l:List (Nat×Nat×Nat)):(vO G l).length<=l.length * bu G:=by
 induction l with
 |nil=>simp [vO]
 |cons x l d=>
  have:vO G (x::l)=((Gf G x.1).map λq=>((x.1:Int),q))++vO G l:=rfl
  rw[this,aV,aS,bx,kH]
  have:=EF G x.1
  omega
theorem Mn (G:Gr):(qR G G.length).length=bu G:=by
 have d:=ai List.length (zc G G.length (bh _));rwa[aS,tL,lJ (bh _)] at d
theorem Va {b:kz}{x:Nat×Nat×Nat}(h:x∈qR b.g b.g.length):At b.g x.1 x.2.1 x.2.2:=by
 obtain⟨d,e,f⟩:=Ov.1 h;refine⟨d,?_,by omega⟩;rw[gZ,az d] at e;exact e
def EdI (H:aA) (c:Nat) (l:List (Int×Int)) (d:aA):Prop:=H.le d/\∃x e,d c=some (.row 23 0 1 [[x]])/\Gl H 60 2 (l.map pD) x d e/\e≠some c
theorem Rs (b:kz)(H:aA)(hc:bu b.g<=1000000)(ap:∀x∈b.bl,x.tg.length<=1000000):aN prog 95 [.agg (lK b)] H λd H'=>d=.seq 2 ((oh b.g).map pD)/\H=H':=by
 refine aq (K:=λd=>d=.seq 2 ((oh b.g).map pD)) ?_;refine lH _ _ func95 rfl rfl ntmps95 results95 (by simp) λw0 g0 Q aB=>?_;refine tq @lK.eq_1 ?_;intro U Y O C;intro c1 ae;refine Y _ ?_;refine cm 1 ae ?_;refine t0 ?_;intro U Y O C;intro u T;refine Y _ ?_;refine t0 ?_;intro U Y O C;refine(GU b _ hc).qt ?_;intro U Y O C;intro c4 ag;refine Y _ ?_;refine cm 4 ag ?_;refine t0 ?_;intro U Y O C;refine(YN b _).qt ?_;intro U Y O C;have P:H.le (H.aU u (.row 23 0 1 [[.val (.slice none 0 0)]])):=aQ (aF _) T;refine iz (λs=>s.df=[]/\s.fr 1=.rp (lK b)/\s.fr 3=.ep u 0 1 0 0/\s.fr 4=.rp [.seq 1 ((E8 b.g (b.bl.length+1)).map iD)]/\s.fr 12=.fn 250 [.rp (lK b)]/\H.le s.H/\EdI H.qb u [] s.H) ⟨rfl,rfl,rfl,rfl,rfl,P,iL (uV H) P,_,none,aK _ _ _,eB _ _ _ _,by simp⟩ ?_;rintro s ⟨V,f1,f3,f4,a8,I,ac⟩;simp only[lK] at f1;refine kZ rfl (Vb b hc) a8 (λ_ _=>trivial) (by simp) (λ_=>rfl) (λf=>EdI H.qb u (vO b.g f)) (λ_ _ _=>False) ?_ ?_ ?_ ?_ ?_ ?_
 ·rintro f H1 H2 hr ⟨p,x,ob,h2,h3,h4⟩
  refine⟨gO (jK H) p hr,x,ob,hr _ _ h2 (by simp),?_,h4⟩;rcases h3 with h3|⟨c,o,v,w,m,g4⟩
  ·exact .inl h3
  ·exact .inr ⟨c,o,v,w,m,hr _ _ g4 (by simp)⟩
 ·exact λ_ _ _ _ _ h=>h
 ·exact ac
 ·rintro l w1 f x z o b4 J ⟨v,xs,ob,w,m,g4⟩ X hl
  rw[ptD,T4];refine tq (cw cR cO cE au V) ?_;intro U Y O C;intro b9 A;refine Y _ ?_;simp only[cF];refine⟨rfl,gE.new (jU _) A,λw2 y b5=>?_⟩;have n5:∀c x,z c=some x->c≠b9:=λc x h e=>by rw[e,A] at h;cases h
  have nl:∀c t o sz R,z c=some (.row t o sz R)->c≠l:=λc t o sz R h e=>by rw[e,hl] at h;cases h
  have n3:=nl _ _ _ _ _ w;have l5:=n5 _ _ hl;have aw:x∈qR b.g b.g.length:=J.subset (by simp);have b8:f.length+1<=bu b.g:=by
   have p:=J.length_le;rw[Mn,aV,eE] at p;exact p
  have b7:=Ni b.g f;have b3:f.length * bu b.g<=1000000 * 1000000:=kD (by omega) hc;have a0:=LF b.g f x;refine dZ 6 rfl (b:=b9) (by simp only[iN,cO,fS];rw[aJ (Ne.symm l5),aK]) rfl ?_;simp only[St.ku,iN,cO,fS,fC,au,eL,kC (Ne.symm l5),kX,iy A,List.drop];have a7:=λ(x:cY) (hx:∀o,x≠ .obj o)=>oC (H:=z) (b:=b9) (l:=l) (y:=y) hx;refine tq (eP f1 f4 cR cO cE au) ?_;intro U Y O C;refine(ZJ b x.1 x.2.1 x.2.2 _ (Va aw) hc ap).q ?_;have am:=EF b.g x.1;have B:(List.map iD (Gf b.g x.1)).length=(Gf b.g x.1).length:=aS _;obtain⟨L,hL⟩:=oX (Gf b.g x.1);rw[<-hL] at am B a0 ⊢;refine tq B ?_;intro U Y O C;have ab:EdI H.qb u (vO b.g f) (z.aU l (.obj y)):=by
   refine⟨gO (jK H) v (kA hl),xs,ob,(aJ n3).trans w,?_,g4⟩;exact m.cM λc h=>aJ λe=>by
    rcases m with m|⟨c',o',p,_,_,h2⟩
    ·rw[m.1] at h;cases h
    ·rw[p] at h;injection h with h;rw[h,e,hl] at h2;cases h2
  refine aO L.length (λj s=>s.df=[]/\s.fr 3=.ep u 0 1 0 0/\s.fr 5=i64 x.1/\s.fr 18=.seq 1 (L.map iD)/\s.fr 19=i64 L.length/\s.fr 20=i64 j/\gE ((z.aU b9 (.row 257 0 2 [[i64 x.2.1,i64 x.2.2]])).aU l (.obj y)) s.H/\EdI H.qb u (vO b.g f++(L.take j).map λq=>((x.1:Int),q)) s.H) ⟨rfl,f3,rfl,rfl,rfl,rfl,a7 _ (by simp),by rw[gK,fw,bz];exact ab⟩ ?_;rintro j s2 hj ⟨S,k3,k5,a1,D,E,a4,a2,b2,b0,F,kg,a3⟩;have ar:=aX j;have a9:=aZ j;by_cases r:j<L.length
  case neg=>
   have q2:=lF j L.length;rw[bK (by omega),<-a0] at kg;refine tn (bQ D E q2) ?_;exact⟨S,a4,a2,b2,b0,F,kg,a3⟩
  have q2:=lT j L.length;have al:=bT r;have w4:=wS j;refine tq (bG k3 k5 a1 D E q2 B (cw al ar a9 r F)) ?_;intro U Y O C;refine ax (e:=60) qm rfl qm rfl Bi rfl (by decide) a2 kg (new:=[pD ((x.1:Int),L[j])]) (by exact⟨rfl,rfl⟩) (by rw[aS,aV,aS,bX];show(_+1) * 16<=_;omega) λd H6 b1 W a6 Z=>?_;have q3:=Z _ _ F a3;have a5:=q3.1;have ak:∃c o n,d=.os c o 2 0 n:=by
   rcases W with⟨_,_,h⟩|⟨c,o,_,h,_⟩
   ·simp at h
   ·exact⟨c,o,_,h⟩
  obtain⟨c',o',n',rfl⟩:=ak;have e:(vO b.g f++(L.take (j+1)).map λq=>((x.1:Int),q)).map pD=(vO b.g f++(L.take j).map λq=>((x.1:Int),q)).map pD++[pD ((x.1:Int),L[j])]:=by rw[bw r];simp only[bI,cC,fw,bE]
  refine eV a5 ?_;refine nx ?_;refine tq (av E w4) ?_;intro U Y O C;refine⟨r,S,k3,k5,a1,D,rfl,(qD a4 kg Z).row a5 (by simp),aQ a6 (jL T),_,b1,aK _ _ _,?_,q3.2⟩;rw[e];exact W.cM λc h=>aJ λe=>q3.2 (by rw[h,e])
 ·rintro z M ⟨v,xs,ob,w,m,g4⟩ X hD aa
  rw[mK,cp,cF,V];have b6:u≠M:=λe=>by rw[e,hD] at w;cases w
  rw[Nh] at m;have v:=lO v I X;have m:=Di m v;refine tq (av f3 w) ?_;intro U Y O C;refine aB _ _ (.inr rfl) ?_ ?_
  ·refine eG f3 ?_
   exact Ql hD
  ·refine eG f3 ?_
   rw[sP];have ad:∀c,ob=some c->c≠M:=λc h e=>by
    rcases m with⟨g,_⟩|⟨c2,o2,p,_,_,h4⟩
    ·rw[g] at h;cases h
    ·rw[h] at p;injection p with p;rw[<-p,e,hD] at h4;cases h4
   have N:H.le (z.aU M .hid):=aQ v (iY I aa);exact⟨_,aF _,N,_,da N (m.cM λc h=>aJ (ad c h)),rfl⟩
 ·exact λ_ _ _ _ _ _ h=>h.elim
structure Gn (b:bn):Prop where
 cn:bu (fD b)<=130
 us:(sV b).length<=400000
 ef:∀(p:Int) (i k:Nat) (h:i<b.bl.length),At (fD b) p i k->VM b.bl[i] k
 ta:∀x∈b.bl,x.tm.tg.length<=1000000
theorem YQ (b:bn)(ok:Gn b)(p:Int)(h0:0<=p)(hp:p<bu (fD b))(H:aA):
  aN prog 240 [.agg (cu b),i64 p] H λd H'=>∃f,H f=none/\d=.agg (xo f (LH (i64 0) (yU b p)) (LG (.val (.bool false)) (yU b p)))/\H'=H.aU f (.map (SM (oJ [] (Ef b p)))):=by
 obtain⟨x,k,g⟩:=DD h0 hp;rw[HH g,Q1 g];obtain⟨i,h,e,rfl⟩:=g;exact aC4 b p i k H h e (by have:=ok.cn;omega) (ok.ef p i k h e)
theorem Ng (b:bn)(ok:Gn b)(H:aA):aN prog 95 [.agg (cu b)] H λd H'=>d=.seq 2 ((oh (fD b)).map pD)/\H=H':=by
 have h:=Rs (gB b) H (by rw[F3];have:=ok.cn;omega) (by
  intro x e;obtain⟨y,f,rfl⟩:=cD.1 e;exact ok.ta y f)
 rwa[Dh,F3] at h
theorem NL (b:bn)(ok:Gn b)(H:aA):aN prog 96 [.agg (cu b)] H λd H'=>d=i64 (bu (fD b))/\H=H':=by
 have h:=PV (gB b) H (by rw[F3];have:=ok.cn;omega);rwa[Dh,F3] at h
def Qi (E:List (Int×Int)):Bool->Int->List Int:=λk x=>if k=true then cT E x else []
theorem M0 (E:List (Int×Int))(e:Int×Int):Qi (E++[e])=BV (Qi E) true e.2 (Qi E true e.2++[e.1]):=by
 funext k x;cases k
 ·rw[jO (by simp)];rfl
 ·by_cases d:x=e.2
  ·subst d;rw[lW];simp [Qi,cT]
  ·rw[jO (by simp [d])]
   have:¬e.2=x:=λe=>d e.symm;simp [Qi,cT,this]
def KI (d:Bool->Int->Option D) (n:Nat):List (List D):=(my n).map λj=>[(d true j).getD (.val (.slice none 0 0))]
theorem Qo (d:Bool->Int->Option D)(n:Nat):(KI d n).length=n:=by unfold KI;rw[aS,iw]
theorem qo {e:Type}(f:Int->e){x:Int}(h0:0<=x)(h:x<n):((my n).map f)[x.toNat]?=some (f x):=by
 have d:x.toNat<(my n).length:=by rw[iw];omega
 rw[bg,az d,Ee d,gJ];congr 2;omega
theorem BK {d:Type}(f:Int->d){x:Int}(h0:0<=x)(v:d):((my n).map f).set x.toNat v=(my n).map λj=>if j=x then v else f j:=by
 refine List.ext_getElem (by simp) λi h h2=>?_;rw[List.getElem_set];have g:i<(my n).length:=by simpa using h2
 simp only[tN,Ee g];by_cases e:x.toNat=i
 ·rw[aD e,aD (by omega)]
 ·rw[aC e,aC (by omega)]
theorem Ie {d:Cx}{x:Code}{N:St->Prop}{Q:Exit->St->Prop}(M:St->Prop)(h1:W d x (eT id (dR M (λ_ _=>False))) s)(h2:∀s,M s->N s):W d x (eT id (dR N Q)) s:=
 nA h1 λe f q=>by cases e <;> simp only[eT] at q ⊢ <;> first|exact h2 f q|exact q.elim|(split at q <;> first|(rename_i h;rw[aD h];exact h2 f q)|exact q.elim)
theorem Ya {N1 d M:St->Prop}{e:Exit->St->Prop}(h:M s):dR N1 (dR d (eT id (dR M e))) (.exit id) s:=by simp only[dR,eT,dN];exact h
theorem exB {N1 M:St->Prop}{d:Exit->St->Prop}(h:M s):dR N1 (eT id (dR M d)) (.exit id) s:=by simp only[dR,eT,dN];exact h
theorem exC {N1 e M:St->Prop}{f:Exit->St->Prop}{d:Nat}(h:M s):dR N1 (dR e (eT id (eT d (dR M f)))) (.exit id) s:=by simp only[dR,eT,dN];exact h
structure BfI (b:bn) (H:aA) (E:List (Int×Int)) (n c4 i:Nat) (s:St):Prop where
 df:s.df=[]
 f1:s.fr 1=.rp (cu b)
 f3:s.fr 3=i64 n
 f4:s.fr 4=.os c4 0 1 0 n
 f24:s.fr 24=.seq 2 (E.map pD)
 f25:s.fr 25=i64 E.length
 f26:s.fr 26=i64 i
 le:H.le s.H
 hp:∃c dm,s.H c4=some (.row 37 0 1 (KI dm n))/\Et H (Qi (E.take i)) c dm s.H
structure BfE (b:bn) (H:aA) (E:List (Int×Int)) (n:Nat) (s:St):Prop where
 df:s.df=[]
 f1:s.fr 1=.rp (cu b)
 f3:s.fr 3=i64 n
 f4:s.fr 4=.seq 1 ((my n).map λj=>[.seq 1 ((cT E j).map iD)])
 hH:s.H=H
def KM (c7 c8:Nat) (fl:Nat->Nat) (i c:Nat):Prop:=c=c7\/c=c8\/∃j,j<i/\c=fl j
structure KN (b:bn) (H:aA) (n i c7 c8:Nat) (EL LL:List (List D)) (fl:Nat->Nat) (Hs:aA):Prop where
 le:H.le Hs
 e7:Hs c7=some (.row 341 0 3 EL)
 l7:EL.length=n
 k7:∀el∈EL,el.length=3
 m7:∀j,j<i->∃bm,EL[j]?=some (xo bm (LH (i64 0) (yU b j)) (LG (.val (.bool false)) (yU b j)))
 e8:Hs c8=some (.row 339 0 1 LL)
 l8:LL.length=n
 k8:∀el∈LL,el.length=1
 m8:∀j,j<i->LL[j]?=some [.val (.map (some (fl j)))]
 fm:∀j,j<i->Hs (fl j)=some (.map [])/\H (fl j)=none
 inj:∀j k,j<i->k<i->fl j=fl k->j=k
theorem KN.at (h:KN b H n i c7 c8 EL LL fl Hs)(hc:KM c7 c8 fl i c):∃z,Hs c=some z/\∀o,z≠ .obj o:=by
 rcases hc with rfl|rfl|⟨j,d,rfl⟩
 ·exact⟨_,h.e7,by simp⟩
 ·exact⟨_,h.e8,by simp⟩
 ·exact⟨_,(h.fm j d).1,by simp⟩
theorem KN.cM {Hs':aA}(h:KN b H n i c7 c8 EL LL fl Hs)(aM:H.le Hs')(hk:∀c z,KM c7 c8 fl i c->Hs c=some z->Hs' c=some z):KN b H n i c7 c8 EL LL fl Hs' where
 le:=aM
 e7:=hk _ _ (.inl rfl) h.e7
 l7:=h.l7
 k7:=h.k7
 m7:=h.m7
 e8:=hk _ _ (.inr (.inl rfl)) h.e8
 l8:=h.l8
 k8:=h.k8
 m8:=h.m8
 fm:=λj hj=>⟨hk _ _ (.inr (.inr ⟨j,hj,rfl⟩)) (h.fm j hj).1,(h.fm j hj).2⟩
 inj:=h.inj
theorem KN.step (h:KN b H n i c7 c8 EL LL fl Hs)(hi:i<n)(y:H c7=none)(z:H c8=none){g:Nat}{S:List Int}(l:Hs g=none)(u:(Hs.aU g (.map (SM S))) bl=none):
  KN b H n (i+1) c7 c8 (EL.set i (xo g (LH (i64 0) (yU b i)) (LG (.val (.bool false)) (yU b i)))) (LL.set i [.val (.map (some bl))]) (λj=>if j=i then bl else fl j) ((((Hs.aU g (.map (SM S))).aU bl (.map [])).aU c7 (.row 341 0 3 (EL.set i (xo g (LH (i64 0) (yU b i)) (LG (.val (.bool false)) (yU b i)))))).aU c8 (.row 339 0 1 (LL.set i [.val (.map (some bl))]))):=by
 obtain⟨n1,n2⟩:=bF.1 u;have F:c7≠g:=λe=>by have:=h.e7;rw[e,l] at this;cases this
 have I:c8≠g:=λe=>by have:=h.e8;rw[e,l] at this;cases this
 have w:c7≠bl:=λe=>by have:=h.e7;rw[e,n2] at this;cases this
 have x:c8≠bl:=λe=>by have:=h.e8;rw[e,n2] at this;cases this
 have p:c7≠c8:=λe=>by have f:=h.e7;rw[e,h.e8] at f;simp at f
 have v:∀j,j<i->fl j≠bl/\fl j≠g/\fl j≠c7/\fl j≠c8:=λj o=>by
  have f:=(h.fm j o).1;refine⟨λe=>?_,λe=>?_,λe=>?_,λe=>?_⟩
  ·rw[e,n2] at f;cases f
  ·rw[e,l] at f;cases f
  ·rw[e,h.e7] at f;cases f
  ·rw[e,h.e8] at f;cases f
 refine⟨?_,?_,?_,?_,?_,?_,?_,?_,?_,?_,?_⟩
 ·exact aQ (aQ (aQ (aQ h.le (gA h.le l)) (gA h.le n2)) y) z
 ·rw[aJ p,aK]
 ·rw[mA,h.l7]
 ·intro t d
  rcases List.mem_or_eq_of_mem_set d with d|rfl
  ·exact h.k7 t d
  ·rfl
 ·intro j o
  by_cases e:j=i
  ·subst e
   exact⟨g,wI (by rw[h.l7];exact hi)⟩
  ·rw[List.getElem?_set_ne (λq=>e q.symm)]
   exact h.m7 j (by omega)
 ·rw[aK]
 ·rw[mA,h.l8]
 ·intro t d
  rcases List.mem_or_eq_of_mem_set d with d|rfl
  ·exact h.k8 t d
  ·rfl
 ·intro j o
  by_cases e:j=i
  ·subst e
   rw[aD rfl];exact wI (by rw[h.l8];exact hi)
  ·rw[List.getElem?_set_ne (λq=>e q.symm),aC e]
   exact h.m8 j (by omega)
 ·intro j o
  by_cases e:j=i
  ·rw[aD e,aJ x.symm,aJ w.symm,aK]
   exact⟨rfl,gA h.le n2⟩
  ·obtain⟨A,B,D,E⟩:=v j (by omega)
   rw[aC e,aJ E,aJ D,aJ A,aJ B];exact h.fm j (by omega)
 ·intro j k o J m
  by_cases e:j=i <;> by_cases r:k=i
  ·omega
  ·rw[aD e,aC r] at m
   exact absurd m.symm (v k (by omega)).1
  ·rw[aC e,aD r] at m
   exact absurd m (v j (by omega)).1
  ·rw[aC e,aC r] at m
   exact h.inj j k (by omega) (by omega) m
theorem KM.or (h:KM c7 c8 (λj=>if j=i then bl else fl j) (i+1) c):KM c7 c8 fl i c\/c=bl:=by
 rcases h with h|h|⟨j,d,h⟩
 ·exact .inl (.inl h)
 ·exact .inl (.inr (.inl h))
 ·by_cases e:j=i
  ·exact .inr (h.trans (aD e))
  ·replace h:=h.trans (aC e);exact .inl (.inr (.inr ⟨j,by omega,h⟩))
theorem Ml (l:List Int):∀S,(oJ S l).length<=S.length+l.length:=by
 induction l with
 |nil=>intro S;exact bh _
 |cons x l e=>
  intro S
  have f:=e (uR S x)
  have g:(uR S x).length<=S.length+1:=by unfold uR;split <;> simp
  have d:oJ S (x::l)=oJ (uR S x) l:=rfl
  rw[d,bx];omega
def wkI (b:bn) (i:Nat) (W:List (Int×Int)):Prop:=∀p x,(p,x)∈W↔(0<=p/\p<i)/\x∈Ef b p
theorem Q9 {W:List (Int×Int)}{f:List Int}(h:wkI b i W)(hp:f.Perm (oJ [] (Ef b i))):wkI b (i+1) (W++f.map λx=>((i:Int),x)):=λp x=>by
 rw[bB,h p x,cD];have d:∀x,x∈f↔x∈Ef b i:=λx=>by rw[hp.mem_iff,vd];simp
 constructor
 ·rintro(⟨g,j⟩|⟨y,q,e⟩)
  ·exact⟨⟨g.1,by omega⟩,j⟩
  ·injection e with m o
   subst m o;exact⟨⟨by omega,by omega⟩,(d y).1 q⟩
 ·rintro⟨⟨g,j⟩,l⟩
  by_cases e:p=i
  ·subst e
   exact .inr ⟨x,(d x).2 l,rfl⟩
  ·exact .inl ⟨⟨g,by omega⟩,l⟩
structure InI (b:bn) (H:aA) (E:List (Int×Int)) (n c7 c8 i:Nat) (s:St):Prop where
 df:s.df=[]
 f1:s.fr 1=.rp (cu b)
 f3:s.fr 3=i64 n
 f4:s.fr 4=.seq 1 ((my n).map λj=>[.seq 1 ((cT E j).map iD)])
 f7:s.fr 7=.os c7 0 3 0 n
 f8:s.fr 8=.os c8 0 1 0 n
 f48:s.fr 48=i64 n
 f49:s.fr 49=i64 i
 hp:∃EL LL fl ob W,KN b H n i c7 c8 EL LL fl s.H/\Gl H 60 2 (List.map pD W) (s.fr 9) s.H ob/\(∀c,KM c7 c8 fl i c->ob≠some c)/\wkI b i W/\W.length<=i * (sV b).length
structure InE (b:bn) (H:aA) (E:List (Int×Int)) (n c8:Nat) (s:St):Prop where
 df:s.df=[]
 f3:s.fr 3=i64 n
 f4:s.fr 4=.seq 1 ((my n).map λj=>[.seq 1 ((cT E j).map iD)])
 hp:∃(EL LL:List (List D)) (fl:Nat->Nat) (ob:Option Nat) (W:List (Int×Int)),s.fr 7=.seq 3 EL/\s.fr 8=.seq 1 LL/\EL.length=n/\LL.length=n/\(∀j,j<n->∃bm,EL[j]?=some (xo bm (LH (i64 0) (yU b j)) (LG (.val (.bool false)) (yU b j))))/\(∀j,j<n->LL[j]?=some [.val (.map (some (fl j)))])/\
  H.le s.H/\(∀j,j<n->s.H (fl j)=some (.map [])/\H (fl j)=none)/\(∀j k,j<n->k<n->fl j=fl k->j=k)/\Gl H 60 2 (List.map pD W) (s.fr 9) s.H ob/\(∀j,j<n->ob≠some (fl j))/\wkI b n W/\W.length<=n * (sV b).length
structure PrH (b:bn) (H:aA) (n:Nat) (fl:Nat->Nat) (V W:List (Int×Int)) (d:D) (Hs:aA) (ob:Option Nat):Prop where
 le:H.le Hs
 fm:∀j,j<n->Hs (fl j)=some (.map (SM (Lp V j)))
 gl:Gl H 60 2 (List.map pD W) d Hs ob
 nb:∀j,j<n->ob≠some (fl j)
structure YB (E:List (Int×Int)) (n:Nat) (EL LL:List (List D)) (s:St):Prop where
 df:s.df=[]
 f3:s.fr 3=i64 n
 f4:s.fr 4=.seq 1 ((my n).map λj=>[.seq 1 ((cT E j).map iD)])
 f7:s.fr 7=.seq 3 EL
 f8:s.fr 8=.seq 1 LL
structure PrE (b:bn) (H:aA) (n:Nat) (LL:List (List D)) (fl:Nat->Nat) (s:St):Prop where
 df:s.df=[]
 f3:s.fr 3=i64 n
 f8:s.fr 8=.seq 1 LL
 hp:∃V,H.le s.H/\(∀j,j<n->s.H (fl j)=some (.map (SM (Lp V j))))/\(∀y,y∈V↔zU b y.1 y.2)/\V.length<=1000000000000/\V.Nodup
def M9 (V:List (Int×Int)) (n i:Nat):List (List D):=(my n).map λj=>[if j<(i:Int) then D.seq 1 ((dL (Lp V j)).map iD) else .val (.slice none 0 0)]
theorem Ma (V:List (Int×Int))(n:Nat):M9 V n 0=List.replicate n [.val (.slice none 0 0)]:=by
 unfold M9;refine List.ext_getElem (by simp [iw]) λi h1 e=>?_;have d:i<(my n).length:=by simpa using h1
 simp only[tN,Ee d,List.getElem_replicate];rw[aC (by omega)]
theorem Ct (V:List (Int×Int))(n i:Nat):(M9 V n i).length=n:=by unfold M9;rw[aS,iw]
theorem RA (V:List (Int×Int))(h:i<n):(M9 V n i)[i]?=some [.val (.slice none 0 0)]:=by
 have:=qo (λj=>[if j<(i:Int) then D.seq 1 ((dL (Lp V j)).map iD) else .val (.slice none 0 0)]) (n:=n) (x:=(i:Int)) (by omega) (by omega);rw[aX,aC (by omega)] at this;exact this
theorem RB (V:List (Int×Int))(n i:Nat):(M9 V n i).set i [.seq 1 ((dL (Lp V i)).map iD)]=M9 V n (i+1):=by
 have:=BK (λj=>[if j<(i:Int) then D.seq 1 ((dL (Lp V j)).map iD) else .val (.slice none 0 0)]) (n:=n) (x:=(i:Int)) (by omega) [.seq 1 ((dL (Lp V i)).map iD)];rw[aX] at this;unfold M9;rw[this];refine pf λj _=>?_;by_cases e:j=i
 ·rw[aD e,e,aD (by omega)]
 ·rw[aC e]
  by_cases h:j<i
  ·rw[aD h,aD (by omega)]
  ·rw[aC h,aC (by omega)]
theorem Qz (V:List (Int×Int))(n:Nat):M9 V n n=(my n).map λp=>[.seq 1 ((dL (Lp V p)).map iD)]:=pf λj d=>by rw[aD (mU.1 d).2]
theorem Hi (ok:Gn b){p x:Int}(h:zU b p x):du x:=by
 refine Hj (P:=λp x=>du x) (λp x h=>?_) (λp q x _ _ h=>h) h;obtain⟨y,k,⟨i,f,d,rfl⟩,e⟩:=xY h;exact(ok.ef p i k f d).us x e
theorem Ou (b:bn)(H:aA)(ok:Gn b):aN prog 166 [.agg (cu b)] H λd H'=>∃V:List (Int×Int),V.Nodup/\(∀y,y∈V↔zU b y.1 y.2)/\d=.seq 1 ((my (bu (fD b))).map λp=>[.seq 1 ((dL (Lp V p)).map iD)])/\H=H':=by
 have cv:=ok.cn;have ew:=λH1=>NL b ok H1;have ey:=λH1=>Ng b ok H1;have i6:=λp h0 hp H1=>YQ b ok p h0 hp H1;have eo:=FL (fD b);obtain⟨E,hE⟩:=oX (oh (fD b));obtain⟨n,hn⟩:=oX (bu (fD b));rw[<-hE] at ey eo;rw[<-hn] at ew cv eo ⊢;have d3:=lm pD E;refine gQ (aq (K:=λd=>∃V:List (Int×Int),V.Nodup/\(∀y,y∈V↔zU b y.1 y.2)/\d=.seq 1 ((my n).map λp=>[.seq 1 ((dL (Lp V p)).map iD)])) ?_) (λd H' ⟨⟨V,h0,A,h2⟩,h3⟩=>⟨V,h0,A,h2,h3⟩);unfold cu at ew ey i6 ⊢;refine dO func166 ntmps166 results166 λw0 g0 Q aB=>?_;refine t0 ?_;intro U Y O C;intro c1 lr;refine Y _ ?_;refine cm 1 lr ?_;refine t0 ?_;intro U Y O C;refine(ew _).q ?_;have cr:=aZ n;refine t0 ?_;intro U Y O C;refine⟨cr,by omega,by omega,λc4 ct=>?_⟩;refine Y _ ?_;refine t0 ?_;intro U Y O C;refine(ey _).q ?_;have gu:∀e∈E,(0<=e.1/\e.1<n)/\(0<=e.2/\e.2<n):=λe he=>by
  rw[hE,sM] at he;rw[hn];exact he.lt
 have nl:E.length<=16900:=ma eo (by have:=kD cv cv;omega);have l3:List.replicate n [D.val (.slice none 0 0)]=KI (λ_ _=>none) n:=by
  unfold KI;refine List.ext_getElem (by simp [iw]) λi A h2=>?_;simp
 rw[l3];refine tq d3 ?_;intro U Y O C;refine Ie (BfE b H E n) ?_ ?_
 ·refine aO E.length (BfI b H E n c4) ⟨rfl,rfl,rfl,rfl,rfl,rfl,rfl,aQ (aF _) ct,λ_ _=>0,λ_ _=>none,aK _ _ _,⟨λ_ _ _=>rfl,λk x h=>absurd (by cases k <;> simp [Qi,cT]) h,λk x _ _ h _ _=>absurd (by cases k <;> simp [Qi,cT]) h⟩⟩ ?_
  rintro i s hi ⟨f,f1,L,R,hu,ed,ef,N,c,dm,hr,hF⟩;have hx:=aX i;have ak:=aZ i;by_cases F:i<E.length
  case neg=>
   have q1:=lF i E.length;rw[bK (by omega)] at hF;have kc:(H.aU c4 (.row 37 0 1 (KI dm n))).le s.H:=λb x hb=>by
    by_cases e:b=c4
    ·rw[e,aK] at hb;rw[e,hr];exact hb
    ·rw[aJ e] at hb;exact N _ _ hb
   refine Mh H (λj=>.seq 1 ((cT E j).map iD)) N ct hr (λj _=>?_) ?_
   ·obtain⟨ob,I,b4,_⟩:=hF.gl true j
    refine da (e:=3) (ob:=ob) kc ?_;rcases I with I|⟨c',o',g1,g2,g3,g4⟩
    ·exact .inl I
    ·refine .inr ⟨c',o',g1,g2,?_,g4⟩
     rw[aJ (λe=>by rw[e,hr] at g4;cases g4)];exact g3
   refine ux 4 R (aK _ _ _) (by rw[aS,iw];omega) ?_;have ls:((H.aU c4 (.row 37 0 1 ((my n).map λj=>[D.seq 1 ((cT E j).map iD)]))).del c4)=H:=by rw[kX,iy ct]
   have m9:List.take n (List.drop 0 ((my n).map λj=>[D.seq 1 ((cT E j).map iD)]))=(my n).map λj=>[D.seq 1 ((cT E j).map iD)]:=by rw[dj,bK (by rw[aS,iw];omega)]
   refine iz (λs=>s.df=[]/\s.fr 1=.rp (cu b)/\s.fr 3=i64 n/\s.fr 4=.seq 1 ((my n).map λj=>[.seq 1 ((cT E j).map iD)])/\s.fr 25=i64 E.length/\s.fr 26=i64 i/\s.H=H) ⟨f,f1,L,ai (D.seq 1) m9,ed,ef,ls⟩ ?_;rintro B ⟨a0,g1,g3,g4,l5,l6,gH⟩;refine tq (bQ l5 l6 q1) ?_;intro U Y O C;exact Ya ⟨a0,g1,g3,g4,gH⟩
  have q1:=lT i E.length;have ir:=il F;have w3:=wS i;obtain⟨e,d1⟩:=oX E[i];have dy:=gu e (by rw[d1];exact ao F);have gc:=M0 (E.take i) e;rw[d1,<-bw F,<-d1] at gc;rw[<-d1] at ir;refine tq (bG hu ed ef q1 ir hx ak (av F d3)) ?_;intro U Y O C;intro b6 lq;refine Y _ ?_;refine cm 6 lq ?_;have o4:(E.take i).length<=16900:=by rw[bX];omega
  have fb:=C7 (E.take i) e.2;obtain⟨ob,I,b4,kk⟩:=hF.gl true e.2;have wY:(KI dm n)[e.2.toNat]?=some [(dm true e.2).getD (.val (.slice none 0 0))]:=qo (λj=>[(dm true j).getD (.val (.slice none 0 0))]) dy.2.1 dy.2.2;obtain⟨no,kp⟩:=oX ((dm true e.2).getD (.val (.slice none 0 0)));rw[<-kp] at wY I;have m1:((some 37==some 31||some 37==some 32||some 37==some 34||some 37==some 35||some 37==some 38||some 37==some 39||some 37==some 40)=true)=False:=aI (by decide);obtain⟨⟨ns,nv⟩,hs,l4⟩:=dy;refine wE (λt=>t==some 31||t==some 32||t==some 34||t==some 35||t==some 38||t==some 39||t==some 40) (λ_=>false) (λ_ _ _ _=>False) (λ_ _ _ _ _=>False) λU Y=>?_;have fs:=And.intro R (And.intro m1 (And.intro hs (And.intro l4 (And.intro hr (And.intro wY Qo)))));refine uj ?_;refine nx ?_;(try clear fs);have kf:ob≠some c4:=λh=>by
   obtain⟨o,els,he⟩:=b4 c4 h;rw[hr] at he;simp at he
  refine ax (e:=3) fk rfl fk rfl yv rfl (by decide) N I (new:=[iD e.1]) (by exact⟨rfl,rfl⟩) (by rw[aS];show(List.length (cT (E.take i) e.2)+1) * 8<=_;omega) λd H6 ka bq kb j7=>?_;have q3:=j7 _ _ hr kf;have ne:=q3.1;have lw:∃c o n,d=.os c o 1 0 n:=by
   rcases bq with⟨_,_,h⟩|⟨c,o,_,h,_⟩
   ·simp at h
   ·exact⟨c,o,_,h⟩
  obtain⟨c',o',n',lx⟩:=lw;subst lx;have kv:∀k' x',Qi (E.take i) k' x'≠[]->¬(k'=true/\x'=e.2)->(H6.aU c4 (.row 37 0 1 ((KI dm n).set e.2.toNat [.os c' o' 1 0 n']))) (c k' x')=s.H (c k' x')/\ka≠some (c k' x'):=λk' x' A h2=>by
   obtain⟨o2,a1,a2,a3⟩:=hF.own k' x' A;have q5:=j7 _ _ a3 (kk k' x' A h2);rw[aJ (λe=>by rw[e,hr] at a3;simp at a3),q5.1,a3];exact⟨rfl,q5.2⟩
  have f0:Gl H 3 1 ((Qi (E.take i) true e.2++[e.1]).map iD) (.os c' o' 1 0 n') (H6.aU c4 (.row 37 0 1 ((KI dm n).set e.2.toNat [.os c' o' 1 0 n']))) ka:=by
   rw[bI];exact bq.cM λc h=>aJ λe=>q3.2 (by rw[h,e])
  obtain⟨cN,i1⟩:=hF.step f0 kv;rw[<-gc] at i1;have dd:(KI dm n).set e.2.toNat [.os c' o' 1 0 n']=KI (BV dm true e.2 (some (.os c' o' 1 0 n'))) n:=by
   unfold KI;rw[BK _ hs];refine pf λj _=>?_;by_cases hj:j=e.2
   ·rw[aD hj,hj,lW];rfl
   ·rw[aC hj,jO (by simp [hj])]
  have kt:H.le (H6.aU c4 (.row 37 0 1 ((KI dm n).set e.2.toNat [.os c' o' 1 0 n']))):=aQ kb ct;refine eV (av ne wY) ?_;refine nx ?_;rw[cp,cF];refine tn (av ef w3) ?_;exact⟨F,f,f1,L,R,hu,ed,rfl,kt,cN,_,by rw[<-dd];exact aK _ _ _,i1⟩
 rintro s ⟨f,f1,L,R,hH⟩;unfold cu at f1;refine bW ?_;refine dE (λ_ _ _ _=>False) λU Y=>?_;refine dst (av L hH) ?_;intro U Y O C;refine⟨cr,by omega,by omega,λc7 et=>⟨cr,by omega,by omega,λc8 ii=>?_⟩⟩;refine Y _ ?_;have dk:H c8=none:=(bF.1 ii).2;have lb:c8≠c7:=(bF.1 ii).1;have aw:H.le ((H.aU c7 (.row 341 0 3 (List.replicate n [.val (.map none),i64 0,.val (.bool false)]))).aU c8 (.row 339 0 1 (List.replicate n [.val (.map none)]))):=aQ (aQ (aF _) et) dk;refine tq L ?_;intro U Y O C;refine Ie (InE b H E n c8) ?_ ?_
 ·refine aO n (InI b H E n c7 c8) ⟨f,f1,L,R,rfl,rfl,rfl,rfl,_,_,λ_=>0,none,[],⟨aw,(aJ lb.symm).trans (aK _ _ _),wJ,λel h=>by rw[(List.mem_replicate.1 h).2] <;> rfl,by simp,aK _ _ _,wJ,λel h=>by rw[(List.mem_replicate.1 h).2] <;> rfl,by simp,by simp,by simp⟩,eB _ _ _ _,by simp,λp x=>by simp;omega,by simp⟩ ?_
  rintro i s hi ⟨f,f1,L,R,Z,P,b5,b9,EL,LL,fl,ob,J,M,I,w,c6,ft⟩;have hx:=aX i;have ak:=aZ i;unfold cu at f1;by_cases F:i<n
  case neg=>
   have q1:=nF ((i:Int)<(n:Int));have br:i=n:=by omega
   subst br;have e0:c8≠c7:=λe=>by have e8:=M.e8;rw[e,M.e7] at e8;simp at e8
   refine ux 7 Z M.e7 (by rw[M.l7];omega) ?_;refine ux 8 (b:=c8) (o:=0) (sz:=1) (k:=0) (n:=i) (ty:=339) (els:=LL) P ((bL e0).trans M.e8) (by rw[M.l8];omega) ?_;have mb:List.take i (List.drop 0 EL)=EL:=by rw[dj,bK (by rw[M.l7];omega)]
   have md:List.take i (List.drop 0 LL)=LL:=by rw[dj,bK (by rw[M.l8];omega)]
   have it:∀c z,s.H c=some z->c≠c7->c≠c8->((s.H.del c7).del c8) c=some z:=λc z h A h2=>by rw[bL h2,bL A];exact h
   have m0:∀j,j<i->((s.H.del c7).del c8) (fl j)=some (.map [])/\H (fl j)=none:=λj hj=>by
    have A:=(M.fm j hj).1;exact⟨it _ _ A (λe=>by rw[e,M.e7] at A;cases A) (λe=>by rw[e,M.e8] at A;cases A),(M.fm j hj).2⟩
   have m3:Gl H 60 2 (List.map pD J) (s.fr 9) ((s.H.del c7).del c8) ob:=I.cM λc h=>by rw[bL (λe=>w c8 (.inr (.inl rfl)) (by rw[h,e])),bL (λe=>w c7 (.inl rfl) (by rw[h,e]))]
   refine iz (λB=>B.df=[]/\B.fr 3=i64 i/\B.fr 4=.seq 1 ((my i).map λj=>[.seq 1 ((cT E j).map iD)])/\B.fr 7=.seq 3 EL/\B.fr 8=.seq 1 LL/\B.fr 48=i64 i/\B.fr 49=i64 i/\H.le B.H/\(∀j,j<i->B.H (fl j)=some (.map [])/\H (fl j)=none)/\Gl H 60 2 (List.map pD J) (B.fr 9) B.H ob) ⟨f,L,R,ai (D.seq 3) mb,ai (D.seq 1) md,b5,b9,λc z hc=>it c z (M.le c z hc) (λe=>by rw[e,et] at hc;cases hc) (λe=>by rw[e,dk] at hc;cases hc),m0,m3⟩ ?_;rintro B ⟨a0,g3,g4,g7,g8,co,cq,l9,gf,gg⟩;refine tq (bQ co cq q1) ?_;intro U Y O C;exact Ya ⟨a0,g3,g4,EL,LL,fl,ob,J,g7,g8,M.l7,M.l8,M.m7,M.m8,l9,gf,M.inj,gg,λj hj=>w _ (.inr (.inr ⟨j,hj,rfl⟩)),c6,ft⟩
  have ag:(i:Int)<(n:Int):=by omega
  have q1:((i:Int)<(n:Int))=True:=aG ag;have w3:=wS i;have gt:=λH1=>i6 i ak (by rw[<-hn];exact ag) H1;obtain⟨lo,f6⟩:=oX (LH (i64 0) (yU b i));obtain⟨df,dx⟩:=oX (LG (.val (.bool false)) (yU b i));obtain⟨S,hS⟩:=oX (oJ [] (Ef b i));rw[<-f6,<-dx,<-hS] at gt;obtain⟨d9,a4⟩:=oX (s.fr 9);rw[<-a4] at I;refine tq (eP f1 Z P b5 b9 q1) ?_;intro U Y O C;refine(gt _).mono ?_;rintro d _ ⟨bm,b1,rfl,rfl⟩;unfold xo;have e7:=M.e7;have l7:=M.l7;have e8:=M.e8;have l8:=M.l8;refine t0 ?_;intro U Y O C;intro bl i9;obtain⟨n1,n2⟩:=bF.1 i9;have a7:c7≠bm:=λe=>by rw[e,b1] at e7;cases e7
  have a8:c8≠bm:=λe=>by rw[e,b1] at e8;cases e8
  have b7:c7≠bl:=λe=>by rw[e,n2] at e7;cases e7
  have b8:c8≠bl:=λe=>by rw[e,n2] at e8;cases e8
  have e0:c8≠c7:=λe=>by rw[e,e7] at e8;simp at e8
  have g7:((s.H.aU bm (.map (SM S))).aU bl (.map [])) c7=some (.row 341 0 3 EL):=by rw[aJ b7,aJ a7];exact e7
  have g8:∀x,(((s.H.aU bm (.map (SM S))).aU bl (.map [])).aU c7 x) c8=some (.row 339 0 1 LL):=λx=>by rw[aJ e0,aJ b8,aJ a8];exact e8
  have i7:EL[i]?=some EL[i]:=az (by omega);have i8:LL[i]?=some LL[i]:=az (by omega);have k7:=M.k7 EL[i] (ao _);have k8:=M.k8 LL[i] (ao _);have d7:List.drop 3 EL[i]=[]:=pK (by omega);have d8:List.drop 1 LL[i]=[]:=pK (by omega);have b0:=M.step (S:=S) F et dk b1 i9;rw[<-f6,<-dx] at b0;unfold xo at b0;refine eV (bG ak ag g7 g8 i7 i8 k7 (bQ k8 d7 d8)) ?_;refine nx ?_;rw[cF];have k6:(EL.set i [.val (.map (some bm)),lo,df]).length=n:=by rw[mA,l7]
  have hw:(EL.set i [.val (.map (some bm)),lo,df])[i]?=some [.val (.map (some bm)),lo,df]:=wI (by omega);obtain⟨ad,ci⟩:∃ad,ad=EL.set i [.val (.map (some bm)),lo,df]:=⟨_,rfl⟩;obtain⟨ae,dp⟩:∃ae,ae=LL.set i [.val (.map (some bl))]:=⟨_,rfl⟩;obtain⟨T,dz⟩:∃T:Nat->Nat,T=λj=>if j=i then bl else fl j:=⟨_,rfl⟩
  obtain⟨H5,bo⟩:=oX (((((s.H.aU bm (.map (SM S))).aU bl (.map [])).aU c7 (.row 341 0 3 ad)).aU c8 (.row 339 0 1 ae)));have gv:∀c,KM c7 c8 T (i+1) c->KM c7 c8 fl i c\/c=bl:=λc h=>by rw[dz] at h;exact h.or
  have h8:∀c,KM c7 c8 T (i+1) c->ob≠some c:=λc h=>by
   rcases gv c h with h|h
   ·exact w c h
   ·intro e
    rcases I with⟨g,_⟩|⟨c2,o2,A,_,_,h4⟩
    ·rw[g] at e;cases e
    ·rw[e] at A;injection A with A;rw[<-A,h,n2] at h4;cases h4
  have ez:Gl H 60 2 (List.map pD J) d9 H5 ob:=I.cM λc h=>by
   have x1:c≠c7:=λe=>w c7 (.inl rfl) (by rw[h,e]);have x2:c≠c8:=λe=>w c8 (.inr (.inl rfl)) (by rw[h,e]);have x3:s.H c≠none:=λe=>by
    rcases I with⟨g,_⟩|⟨c2,o2,A,_,_,h4⟩
    ·rw[g] at h;cases h
    ·rw[h] at A;injection A with A;rw[<-A,e] at h4;cases h4
   rw[bo,aJ x2,aJ x1,aJ (λe=>x3 (by rw[e,n2])),aJ (λe=>x3 (by rw[e,b1]))]
  have de:ob≠some bm:=λe=>by
   rcases I with⟨g,_⟩|⟨c2,o2,A,_,_,h4⟩
   ·rw[g] at e;cases e
   ·rw[e] at A;injection A with A;rw[<-A,b1] at h4;cases h4
  have j1:H5 bm=some (.map (SM S)):=by rw[bo,aJ a8.symm,aJ a7.symm,aJ (Ne.symm n1),aK]
  have km:¬KM c7 c8 T (i+1) bm:=λh=>by
   rcases gv bm h with h|h
   ·obtain⟨z,hz,_⟩:=M.at h;rw[b1] at hz;cases hz
   ·exact n1 h.symm
  rw[<-ci,<-dp,<-dz,<-bo] at b0;rw[<-ci] at k6 hw;rw[<-ci,<-dp,<-bo];have kg:=gA M.le b1;have dt:=b0.le;have ht:=b0.e7;refine iz (λB=>B.df=[]/\B.fr 1=.rp (cu b)/\B.fr 3=i64 n/\B.fr 4=.seq 1 ((my n).map λj=>[.seq 1 ((cT E j).map iD)])/\B.fr 7=.os c7 0 3 0 n/\B.fr 8=.os c8 0 1 0 n/\B.fr 48=i64 n/\B.fr 49=i64 i/\B.fr 10=i64 i/\B.fr 9=d9/\B.H=H5) ⟨f,f1,L,R,Z,P,b5,b9,rfl,a4.symm,rfl⟩ ?_;rintro B ⟨a0,g1,g3,g4,g7,g8,co,cq,eg,g9,gH⟩;clear ci dp dz bo f6 dx w I M i7 i8 k7 k8 d7 d8;refine tq (bG g7 eg gH ht k6 hw hx (bQ ak F ag)) ?_;intro U Y O C;refine zX (SV S) rfl (show(67:Nat)<160 by decide) underlying338 rfl (by show B.H bm=_;rw[gH];exact j1) ?_;intro r H6 c3 o3 i3 bb;replace c3:H5 r=none:=by rw[<-gH];exact c3
  have n6:∀c z,H5 c=some z->c≠r:=λc z h e=>by rw[e,c3] at h;cases h
  replace bb:∀c,c≠bm->c≠r->H6 c=H5 c:=λc A h2=>(bb c A h2).trans (congrFun gH c);have gk:=gA dt c3;have i2:KN b H n (i+1) c7 c8 ad ae T H6:=b0.cM (λc z hc=>(bb c (λe=>by rw[e,kg] at hc;cases hc) (λe=>by rw[e,gk] at hc;cases hc)).trans (dt c z hc)) λc z hc hz=>(bb c (λe=>km (e▸hc)) (n6 c z hz)).trans hz;have b4:ob≠some r:=λe=>by
   rcases ez with⟨g,_⟩|⟨c2,o2,A,_,_,h4⟩
   ·rw[g] at e;cases e
   ·rw[e] at A;injection A with A;rw[<-A,c3] at h4;cases h4
  have bq:Gl H 60 2 (List.map pD J) d9 H6 ob:=ez.cM λc h=>bb c (λe=>de (by rw[h,e])) (λe=>b4 (by rw[h,e]));refine Y _ ?_;refine t0 ?_;intro U Y O C;refine jz (λk X=>∃(b3 dn:List Int) (ap:Option Nat),k=b3.length/\X.df=[]/\X.fr 1=.rp (cu b)/\X.fr 3=i64 n/\X.fr 4=.seq 1 ((my n).map λj=>[.seq 1 ((cT E j).map iD)])/\X.fr 7=.os c7 0 3 0 n/\X.fr 8=.os c8 0 1 0 n/\X.fr 48=i64 n/\X.fr 49=i64 i/\X.fr 10=i64 i/\X.fr 67=.val (.pointer (some ⟨r,0,none⟩))/\B0 X.H bm r (SV b3)/\KN b H n (i+1) c7 c8 ad ae T X.H/\Gl H 60 2 (List.map pD (J++dn.map λx=>((i:Int),x))) (X.fr 9) X.H ap/\(∀c,KM c7 c8 T (i+1) c->ap≠some c)/\ap≠some bm/\ap≠some r/\(dn++b3).Perm S) S.length ⟨S,[],ob,rfl,a0,g1,g3,g4,g7,g8,co,cq,eg,rfl,i3,i2,by rw[fw,bz];exact(ai (λd=>Gl H 60 2 (List.map pD J) d H6 ob) g9).mpr bq,h8,de,b4,List.Perm.refl _⟩ ?_;clear i3 i2 bq bb b4 de h8 ez b0 j1 ht dt gH g9 eg cq co g8 g7 g4 g3 g1 a0;rintro k s3 ⟨b3,dn,k9,rfl,f,f1,L,R,Z,P,b5,b9,ea,cl,hR,M,I,w,ke,ge,hp⟩;obtain⟨e9,ex⟩:=oX (s3.fr 9);rw[<-ex] at I;have i4:=Ml (Ef b i) [];have w9:=UR b i;have na:=ok.us;rw[<-hS] at i4;rw[dX] at i4;have o5:(i+1) * (sV b).length<=130 * 400000:=kD (by omega) na;have o6:(i+1) * (sV b).length=i * (sV b).length+(sV b).length:=kH _ _;refine tq cl ?_;intro U Y O C;refine uw rfl (show(68:Nat)<160 by decide) cl hR (λfd=>?_) (λl1 p l2 H7 fd ll ld f2=>?_)
  ·have n8:b3=[]:=by
    cases b3 with
    |nil=>rfl
    |cons a l=>cases fd
   subst n8
   rw[bz] at hp
   have fb:=hp.length_eq
   refine eV trivial ?_;refine nx ?_
   refine tn (av b9 w3) ?_
   exact⟨F,f,f1,L,R,Z,P,b5,rfl,ad,ae,T,k9,J++dn.map λx=>((i:Int),x),M,by subst ex;exact I,w,Q9 c6 (by rw[<-hS];exact hp),by rw[aV,aS];omega⟩
  ·obtain⟨t1,ol,e1,e2,e3⟩:=wH.1 fd
   obtain⟨x,t2,e4,e5,e6⟩:=wL.1 e3;subst e1 e4 e2 e6 e5;have fb:=hp.length_eq;have mu:((dn++[x])++(t1++t2)).Perm S:=by
    refine List.Perm.trans ?_ hp;rw[bE];exact zF _ (zQ (l₁:=t1) (l₂:=t2) (a:=x)).symm
   have eq:B0 H7 bm r (SV (t1++t2)):=by
    have:SV (t1++t2)=SV t1++SV t2:=bI;rw[this];exact ll
   have n5:¬KM c7 c8 T (i+1) r:=λh=>by
    obtain⟨z,hz,nc⟩:=M.at h;obtain⟨y,hy⟩:=hR.obj;rw[hz] at hy;injection hy with hy;exact nc y hy
   have ep:KN b H n (i+1) c7 c8 ad ae T H7:=M.cM (λc z hc=>(f2 c (λe=>by rw[e,gk] at hc;cases hc)).trans (M.le c z hc)) λc z hc hz=>(f2 c (λe=>n5 (e▸hc))).trans hz;have m4:Gl H 60 2 (List.map pD (J++dn.map λx=>((i:Int),x))) e9 H7 k9:=I.cM λc h=>f2 c λe=>ge (by rw[h,e]);have cd:(J++dn.map λx=>((i:Int),x)).length+1<=52000000:=by
    simp only[aV,bx,aS] at fb ⊢;omega
   refine eV trivial ?_;refine nx ?_;refine t0 ?_;intro U Y O C;refine rj rfl (show(70:Nat)<160 by decide) (by exact cl) ld ?_;refine eV ea ?_;refine nx ?_;refine tq ea ?_;intro U Y O C;rw[<-ex];have kj:=ep.le;have bs:List.map pD (J++(dn++[x]).map λx=>((i:Int),x))=List.map pD (J++dn.map λx=>((i:Int),x))++[pD ((i:Int),x)]:=by simp only[bI,cC,fw,bE]
   refine ax (e:=60) qm rfl qm rfl Bi rfl (by decide) kj m4 (new:=[pD ((i:Int),x)]) (by exact⟨rfl,rfl⟩) (by rw[aS];show(_+1) * 16<=_;omega) λd H8 ar b2 aw am=>?_;obtain⟨zb,k4⟩:∃z,H7 bm=some z:=by obtain⟨_,h⟩:=eq.map;exact⟨_,h⟩
   obtain⟨zr,k5⟩:∃z,H7 r=some z:=by obtain⟨_,h⟩:=eq.obj;exact⟨_,h⟩
   have k1:=am bm zb k4 ke;have k2:=am r zr k5 ge;have li:KN b H n (i+1) c7 c8 ad ae T H8:=ep.cM aw λc z hc hz=>(am c z hz (w c hc)).1;have l0:∀c,KM c7 c8 T (i+1) c->ar≠some c:=λc hc=>by
    obtain⟨z,hz,_⟩:=ep.at hc;exact(am c z hz (w c hc)).2
   refine tz ?_;exact⟨_,by show(t1++t2).length<(t1++x::t2).length;rw[aV,aV,bx];omega,t1++t2,dn++[x],ar,rfl,f,f1,L,R,Z,P,b5,b9,ea,cl,eq.cM (k1.1.trans k4.symm) (k2.1.trans k5.symm),li,by rw[bs];exact b2,l0,k1.2,k2.2,mu⟩
 rintro s ⟨f,L,R,EL,LL,fl,ob,J,Z,P,l7,l8,m7,m8,N,u,h6,I,w,c6,ft⟩;have hC:(Bq b).length * (E.length+1)+J.length<=1000000000000:=by
  have A:=K2 b;rw[<-hn] at A;have h2:n * (sV b).length<=130 * 400000:=kD cv ok.us;have h3:(Bq b).length * (E.length+1)<=52000000 * 16901:=kD (by omega) (by omega);omega
 have ho:=VH E [] (Bq b);have h9:KU b [] J:=KU.init λp x=>by
  rw[c6 p x];refine⟨λh=>h.2,λh=>⟨?_,h⟩⟩;obtain⟨y,k,A,_⟩:=xY h;rw[hn];exact A.lt
 obtain⟨UW,i5⟩:=oX (Bq b);rw[<-i5] at hC ho;have h5:∀j,j<n->H (fl j)=none:=λj hj=>(u j hj).2;refine t0 ?_;intro U Y O C;refine Ie (PrE b H n LL fl) ?_ ?_
 ·refine jz (λk X=>∃V W ap,k=MQ E V UW+W.length/\YB E n EL LL X/\PrH b H n fl V W (X.fr 9) X.H ap/\KU b V W/\V.length+MQ E V UW+W.length<=1000000000000) _ ⟨[],J,ob,rfl,⟨f,L,R,Z,P⟩,⟨N,λj hj=>(u j hj).1,I,w⟩,h9,by rw[dX];omega⟩ ?_
  clear w I u N P Z R L f;rintro k s ⟨V,W,ob,rfl,⟨f,L,R,Z,P⟩,⟨N,u,I,w⟩,ac,er⟩;rcases List.eq_nil_or_concat W with rfl|⟨W,y,rfl⟩
  ·have ch:=ac.fin
   have m2:s.fr 9=.val (.slice none 0 0)\/∃c o,s.fr 9=.os c o 2 0 0:=by
    rcases I with⟨_,h,_⟩|⟨c,o,_,h,_⟩
    ·exact .inl h
    ·exact .inr ⟨c,o,h⟩
   rcases m2 with f9|⟨c,o,f9⟩
   ·refine tq f9 ?_;intro U Y O C
    exact Ya ⟨f,L,P,V,N,u,ch,by omega,ac.nd⟩
   ·refine tq f9 ?_;intro U Y O C
    exact Ya ⟨f,L,P,V,N,u,ch,by omega,ac.nd⟩
  ·rw[List.concat_eq_append] at ac er I ⊢
   have j0:(List.map pD (W++[y])).length=W.length+1:=by rw[aS,aV];rfl
   have h7:(W++[y]).length=W.length+1:=by rw[aV];rfl
   rw[h7] at er;obtain⟨c9,o9,rfl,f9,ih,eu⟩:∃c o,ob=some c/\s.fr 9=.os c o 2 0 (W.length+1)/\H c=none/\s.H c=some (.row 60 o 2 (List.map pD (W++[y]))):=by
    rcases I with⟨_,_,h⟩|⟨c,o,A,h2,h3,h4⟩
    ·simp at h
    ·rw[j0] at h2
     exact⟨c,o,A,h2,h3,h4⟩
   have fa:=ac.sw y (by simp);obtain⟨⟨g6,d4⟩,o7⟩:=Dz fa;rw[<-hn] at d4;have gj:=Hi ok fa;obtain⟨m,hm⟩:=oX W.length;rw[<-hm] at j0 h7 er f9;have w1:IntKind.i64.wrap (((m+1:Nat):Int) - 1)=(m:Int):=by rw[aP (by omega)];omega
   have q0:=nT ((0:Int)<((m+1:Nat):Int));have i0:=aZ m;have j2:=aX m;have d3:(m:Int)<((m+1:Nat):Int):=by omega
   have m5:(List.map pD (W++[y]))[m]?=some (pD y):=by rw[bI,mO (by rw[aS];omega),aS,hm,wU];rfl
   have ks:(List.map pD (W++[y]))[m]?=some [i64 y.1,i64 y.2]:=m5;refine tq (av f9 q0) ?_;intro U Y O C;refine nR (λB=>YB E n EL LL B/\B.fr 9=.os c9 o9 2 0 (m+1)/\B.fr 12=i64 y.1/\B.fr 13=i64 y.2/\B.H=s.H) ?_ ?_
   ·refine dE (λ_ _ _ _=>False) λU Y=>?_;refine dst (ej f9 w1 i0 j2 d3 eu ks) ?_;intro U Y O C
    exact⟨⟨f,L,R,Z,P⟩,f9,rfl,rfl,rfl⟩
   rintro B ⟨⟨a0,g3,g4,g7,g8⟩,g9,bi,bk,gH⟩;refine bW ?_;refine nR (λs3=>YB E n EL LL s3/\s3.fr 9=.os c9 o9 2 0 m/\s3.fr 12=i64 y.1/\s3.fr 13=i64 y.2/\s3.H=s.H) ?_ ?_
   ·refine tn (cA g9 w1 i0 j2) ?_
    exact⟨by omega,Y _ ⟨⟨a0,g3,g4,g7,g8⟩,rfl,bi,bk,gH⟩⟩
   clear bk bi g9 g8 g7 g4 g3 a0 gH;clear B;rintro B ⟨⟨a0,g3,g4,g7,g8⟩,g9,bi,bk,gH⟩;refine KZ m (b:=c9) (o:=o9) (sz:=2) (ty:=60) (els:=List.map pD (W++[y])) (by rw[gH];exact eu) ?_;have n7:(List.map pD (W++[y])).take m=List.map pD W:=by rw[bI,List.take_left' (by rw[aS,hm])]
   rw[n7,gH];have kw:∀j,j<n->fl j≠c9:=λj hj e=>w j hj (by rw[e]);refine iz (λs3=>YB E n EL LL s3/\s3.fr 12=i64 y.1/\s3.fr 13=i64 y.2/\PrH b H n fl V W (s3.fr 9) s3.H (some c9)) ⟨⟨a0,g3,g4,g7,g8⟩,bi,bk,⟨aQ N ih,λj hj=>(aJ (kw j hj)).trans (u j hj),.inr ⟨c9,o9,rfl,by rw[aS,<-hm];exact g9,ih,aK _ _ _⟩,w⟩⟩ ?_;clear bk bi g9 g8 g7 g4 g3 a0 gH eu f9 I N u P Z R L f;clear B;rintro B ⟨⟨f,L,R,Z,P⟩,eb,a6,⟨N,u,I,_⟩⟩;obtain⟨d9,a4⟩:=oX (B.fr 9);rw[<-a4] at I;have ce:y.1.toNat<n:=by omega
   have k3:((y.1.toNat:Nat):Int)=y.1:=by omega
   have hL:=m8 _ ce;have hF:=u _ ce;rw[k3] at hF;by_cases cc:y∈V
   ·have br:=Mb (xJ.2 (show(y.1,y.2)∈V from cc))
    have f5:=KW (S:=Lp V y.1) (λx hx=>Hi ok (ac.sv _ (xJ.1 hx))) gj;refine tq (bG P eb a6 hL l8 g6 d4 (bQ hF br f5)) ?_;intro U Y O C;refine exB ⟨MQ E V UW+W.length,?_,V,W,some c9,rfl,⟨f,L,R,Z,P⟩,⟨N,u,by subst a4;exact I,w⟩,ac.skip cc,by omega⟩;show _<_;omega
   ·have j3:y.2∉Lp V y.1:=λh=>cc (xJ.1 h)
    have kd:=Gs j3;have dd:=Cv j3;have f5:=KW (S:=Lp V y.1) (λx hx=>Hi ok (ac.sv _ (xJ.1 hx))) gj;have hB:=qo (λj=>[D.seq 1 ((cT E j).map iD)]) g6 d4;have lc:((my n).map λj=>[D.seq 1 ((cT E j).map iD)]).length=n:=by rw[aS,iw]
    have c0:(List.map iD (cT E y.1)).length=(cT E y.1).length:=aS _;have f0:(fl y.1.toNat)≠c9:=λe=>w _ ce (by rw[e]);obtain⟨PE,al⟩:=oX (cT E y.1);rw[<-al] at hB c0;refine tq (bG R P eb a6 hL l8 g6 (bG d4 hF kd dd f5 hB lc c0)) ?_;intro U Y O C;have ln:y∈UW:=by rw[i5];exact Lj fa
    have nb:=Qe (E:=E) cc ln;rw[<-al] at nb;have kq:∀q∈PE,0<=q/\q<n:=λq hq=>by rw[al] at hq;exact(gu _ (qC.1 hq)).1
    have gn:PrH b H n fl (V++[y]) (W++Aj b E y.1 y.2 0) d9 (B.H.aU (fl y.1.toNat) (.map (SM (Lp V y.1++[y.2])))) (some c9):=by
     refine⟨aQ N (h5 _ ce),λj hj=>?_,?_,w⟩
     ·by_cases e:j=y.1.toNat
      ·rw[e,aK,k3,Qt]
      ·rw[aJ (λh=>e (h6 _ _ hj ce h)),Xz (by omega)]
       exact u j hj
     ·have:Aj b E y.1 y.2 0=[]:=rfl
      rw[this,bz];exact I.cM λc h=>aJ λe=>f0 (by injection h with h;rw[h,e])
    refine aO PE.length (λj s3=>YB E n EL LL s3/\s3.fr 13=i64 y.2/\s3.fr 115=.seq 1 (PE.map iD)/\s3.fr 116=i64 PE.length/\s3.fr 117=i64 j/\∃ap,PrH b H n fl (V++[y]) (W++Aj b E y.1 y.2 j) (s3.fr 9) s3.H ap) ⟨⟨f,L,R,Z,P⟩,a6,rfl,rfl,rfl,some c9,by subst a4;exact gn⟩ ?_;clear gn I w u N a4 hF a6 eb P Z R L f;clear B;rintro j s3 hj ⟨⟨f,L,R,Z,P⟩,a6,a9,a5,aa,ob,⟨N,u,I,w⟩⟩;have g5:=aX j;have ei:=aZ j;by_cases ab:j<PE.length
    case neg=>
     have q1:=lF j PE.length;have m6:j=(cT E y.1).length:=by rw[<-al];omega
     have jj:=ac.add cc;rw[<-hE,<-m6] at jj;have n4:=TS b E y.1 y.2 j;rw[<-al] at n4;refine tq (bQ a5 aa q1) ?_;intro U Y O C;refine exC ⟨MQ E (V++[y]) UW+(W++Aj b E y.1 y.2 j).length,?_,V++[y],W++Aj b E y.1 y.2 j,ob,rfl,⟨f,L,R,Z,P⟩,⟨N,u,I,w⟩,jj,?_⟩
     ·show _<_
      rw[aV];omega
     ·rw[aV,aV]
      simp only[eE];omega
    have q1:=lT j PE.length;have w4:=wS j;have d2:=bT ab;obtain⟨u0,u1⟩:=kq PE[j] (ao _);have k0:PE[j].toNat<n:=by omega
    have js:((PE[j].toNat:Nat):Int)=PE[j]:=by omega
    obtain⟨bm,hM⟩:=m7 _ k0;rw[js] at hM;have c5:=P3 (b:=b) (E:=E) (p:=y.1) (x:=y.2) (j:=j) (by rw[<-al];exact ab);have mx:(cT E y.1)[j]'(by rw[<-al];exact ab)=PE[j]:=by simp only[al]
    rw[mx] at c5;have nk:=P2 b E y.1 y.2 j;obtain⟨q,hq⟩:=oX PE[j];rw[<-hq] at d2 u0 u1 k0 js hM c5;obtain⟨d9,a4⟩:=oX (s3.fr 9);rw[<-a4] at I;have nm:(W++Aj b E y.1 y.2 j).length+1<=1000000000000:=by rw[aV];omega
    have o1:q∈PE:=by rw[hq];exact ao _
    clear hq;by_cases bt:yU b q=some y.2
    ·rw[aD bt,bz] at c5
     rw[bt] at hM;simp only[xo,LH,LG] at hM;refine tn (bG Z a6 a9 a5 aa q1 w4 (bG d2 g5 ei ab c0 hM l7 (av u0 u1))) ?_;exact⟨ab,⟨f,L,R,Z,P⟩,a6,a9,a5,rfl,ob,N,u,by rw[c5];subst a4;exact I,w⟩
    have hh:Aj b E y.1 y.2 (j+1)=Aj b E y.1 y.2 j++[(q,y.2)]:=by rw[c5,aC bt]
    cases io:yU b q with
    |none=>
     rw[io] at hM
     simp only[xo,LH,LG] at hM
     refine tq (bG Z a6 a9 a5 aa q1 w4 (bG d2 g5 ei ab c0 hM l7 (av u0 u1))) ?_;intro U Y O C
     rw[<-a4]
     refine ax (e:=60) qm rfl qm rfl Bi rfl (by decide) N I (new:=[pD (q,y.2)]) (by exact⟨rfl,rfl⟩) (by rw[aS];show(_+1) * 16<=_;omega) λd H8 ar b2 aw am=>?_
     have bs:List.map pD (W++Aj b E y.1 y.2 (j+1))=List.map pD (W++Aj b E y.1 y.2 j)++[pD (q,y.2)]:=by rw[hh,<-bE,bI];rfl
     rw[<-bs] at b2
     have bc:∀i,i<n->H8 (fl i)=some (.map (SM (Lp (V++[y]) i)))/\ar≠some (fl i):=λi hi=>am _ _ (u i hi) (w i hi)
     refine tn (av aa w4) ?_
     exact⟨ab,⟨f,L,R,Z,P⟩,a6,a9,a5,rfl,ar,aw,λi hi=>(bc i hi).1,b2,λi hi=>(bc i hi).2⟩
    |some v=>
     rw[io] at hM bt
     simp only[xo,LH,LG] at hM
     have qv:(v=y.2)=False:=aI λe=>bt (by rw[e])
     refine tq (bG Z a6 a9 a5 aa q1 w4 (bG d2 g5 ei ab c0 hM l7 (bQ u0 u1 qv))) ?_;intro U Y O C
     rw[<-a4]
     refine ax (e:=60) qm rfl qm rfl Bi rfl (by decide) N I (new:=[pD (q,y.2)]) (by exact⟨rfl,rfl⟩) (by rw[aS];show(_+1) * 16<=_;omega) λd H8 ar b2 aw am=>?_
     have bs:List.map pD (W++Aj b E y.1 y.2 (j+1))=List.map pD (W++Aj b E y.1 y.2 j)++[pD (q,y.2)]:=by rw[hh,<-bE,bI];rfl
     rw[<-bs] at b2
     have bc:∀i,i<n->H8 (fl i)=some (.map (SM (Lp (V++[y]) i)))/\ar≠some (fl i):=λi hi=>am _ _ (u i hi) (w i hi)
     refine tn (av aa w4) ?_
     exact⟨ab,⟨f,L,R,Z,P⟩,a6,a9,a5,rfl,ar,aw,λi hi=>(bc i hi).1,b2,λi hi=>(bc i hi).2⟩
 clear m7 l7 ho h9 w I u N P Z R L f ft c6;rintro s ⟨f,L,P,V,N,u,ch,o0,lp⟩;refine tq L ?_;intro U Y O C;refine⟨cr,by omega,by omega,λck dv=>?_⟩;refine Y _ ?_;have dl:=gA N dv;refine tn (av P l8) ?_;refine aO n (λi X=>X.df=[]/\X.fr 16=.os ck 0 1 0 n/\X.fr 145=.seq 1 LL/\X.fr 146=i64 n/\X.fr 147=i64 i/\H.le X.H/\X.H ck=some (.row 37 0 1 (M9 V n i))/\∀j,i<=j->j<n->X.H (fl j)=some (.map (SM (Lp V j)))) ⟨f,rfl,rfl,rfl,rfl,aQ N dl,by rw[Ma];exact aK _ _ _,λj _ hj=>(aJ (λe=>by have:=u j hj;rw[e,dv] at this;cases this)).trans (u j hj)⟩ ?_;clear dv u N P L f;clear s;rintro i s hi ⟨f,ec,d5,be,bf,N,hr,u⟩;have hx:=aX i;have ak:=aZ i;by_cases F:i<n
 case neg=>
  have q1:=nF ((i:Int)<(n:Int));have br:i=n:=by omega
  subst br;refine ur aB (cA ec be bf q1) f ?_;exact⟨_,aF _,N,_,nY (k:=0) N hr dl (by rw[Ct];omega),V,lp,ch,by rw[dj,bK (by rw[Ct];omega),Qz]⟩
 have ag:(i:Int)<(n:Int):=by omega
 have q1:((i:Int)<(n:Int))=True:=aG ag;have w3:=wS i;have hL:=m8 i F;have mp:ck≠fl i:=λe=>by have:=u i (bh _) F;rw[<-e,hr] at this;cases this
 refine Bn (fl i) (SV (Lp V i)) (u i (bh _) F) λes d6 mm=>?_;obtain⟨Hh,ba⟩:=oX (s.H.aU (fl i) (.obj (.map es d6)));rw[<-ba];have kl:H.le Hh:=by rw[ba];exact aQ N (h5 i F)
 have jp:Hh ck=some (.row 37 0 1 (M9 V n i)):=by rw[ba,aJ mp];exact hr
 have j4:Hh (fl i)=some (.obj (.map es d6)):=by rw[ba,aK]
 have ip:∀j,i+1<=j->j<n->Hh (fl j)=some (.map (SM (Lp V j))):=λj A h2=>by rw[ba,aJ (λe=>by have:=h6 _ _ h2 F e;omega)];exact u j (by omega) h2
 have nw:=VO V i;have ms:=Ct V n i;have mq:=RA V F;clear ba;refine tq (bG ec d5 be bf q1 hL l8 (cA hx ak F ag)) ?_;intro U Y O C;refine(SU (fl i) _).qt ?_;intro U Y O C;refine(MB (OZ (Lp V i) (fl i) es d6 mm) (Lp V i) Hh (λH' h=>h _ _ j4) (λHc h=>h _ _ j4) (λl h=>by obtain⟨r,hr⟩:=h;have:=hr.length_eq;rw[aV] at this;omega) (λl h=>h) (by omega)).mono ?_;rintro d _ ⟨rfl,rfl⟩;refine tn (bG jp ms mq hx ak F ag (av bf w3)) ?_;exact⟨F,f,ec,d5,be,rfl,aQ kl dl,by rw[<-RB];exact aK _ _ _,λj A h2=>(aJ (λe=>by have:=ip j A h2;rw[e,jp] at this;cases this)).trans (ip j A h2)⟩
end Go.Proofs.YtffgfafbffdgaaaGreatDoor
