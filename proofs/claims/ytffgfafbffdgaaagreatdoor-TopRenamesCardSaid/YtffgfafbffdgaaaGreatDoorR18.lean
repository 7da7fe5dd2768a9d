/- Lemmas and contracts of functions, several texts in one. -/
import Derived.Test.YtffgfafbffdgaaaGreatDoorR17
set_option maxRecDepth 100000
set_option maxHeartbeats 4000000
set_option linter.all false
namespace Go.Proofs.YtffgfafbffdgaaaGreatDoor
open Go.RowKit
open Tryz
variable {k:Bool}{x y:List Int}{H0 H H':aA}{c:Bool->Int->Nat}{dm:Bool->Int->Option D}{l:List (Int×Int)}{n a b i r:Int}{ts:List bp}{par:bp->List Int}
def BV {e:Type}(F:Bool->Int->e) (k:Bool) (x:Int) (v:e):Bool->Int->e:=λf g=>if f=k/\g=x then v else F f g
theorem lW {e:Type}(F:Bool->Int->e)(k:Bool)(x:Int)(v:e):BV F k x v k x=v:=aD ⟨rfl,rfl⟩
theorem jO {g:Type}{F:Bool->Int->g}{e:Bool}{x f:Int}{v:g}(h:¬(e=k/\f=x)):BV F k x v e f=F e f:=aC h
structure Et (H0:aA) (F:Bool->Int->List Int) (c:Bool->Int->Nat) (dm:Bool->Int->Option D) (H:aA):Prop where
 nil:∀k x,F k x=[]->dm k x=none
 own:∀k x,F k x≠[]->∃o,dm k x=some (.os (c k x) o 1 0 (F k x).length)/\H0 (c k x)=none/\H (c k x)=some (.row 3 o 1 ((F k x).map iD))
 inj:∀k x k' x',F k x≠[]->F k' x'≠[]->c k x=c k' x'->k'=k/\x'=x
theorem Et.cM {F:Bool->Int->List Int}(h:Et H0 F c dm H)(hk:∀b z,H b=some z->(∃o els,z=.row 3 o 1 els)->H' b=some z):Et H0 F c dm H' where
 nil:=h.nil
 own:=λk x hx=>by
  obtain⟨o,h1,h2,h3⟩:=h.own k x hx;exact⟨o,h1,h2,hk _ _ h3 ⟨_,_,rfl⟩⟩
 inj:=h.inj
theorem Et.gl {F:Bool->Int->List Int}(h:Et H0 F c dm H)(k:Bool)(x:Int):
  ∃ob,Gl H0 3 1 ((F k x).map iD) ((dm k x).getD (.val (.slice none 0 0))) H ob/\(∀b,ob=some b->∃o els,H b=some (.row 3 o 1 els))/\∀g j,F g j≠[]->¬(g=k/\j=x)->ob≠some (c g j):=by
 by_cases m:F k x=[]
 ·exact⟨none,.inl ⟨rfl,by rw[h.nil k x m] <;> rfl,by rw[m] <;> rfl⟩,(λb f=>by cases f),λ_ _ _ _ e=>by cases e⟩
 ·obtain⟨o,u,v,s⟩:=h.own k x m
  refine⟨some (c k x),.inr ⟨c k x,o,rfl,by rw[u,aS] <;> rfl,v,s⟩,λb f=>?_,λg j t p e=>?_⟩
  ·injection f with f;subst f;exact⟨_,_,s⟩
  ·injection e with e
   exact p (h.inj k x g j m t e)
theorem Et.step {H':aA}{F:Bool->Int->List Int}(h:Et H0 F c dm H){k:Bool}{x y:Int}{G:D}{v:Option Nat}
  (hg:Gl H0 3 1 ((F k x++[y]).map iD) G H' v) (hk:∀g j,F g j≠[]->¬(g=k/\j=x)->H' (c g j)=H (c g j)/\v≠some (c g j)):
  ∃I,Et H0 (BV F k x (F k x++[y])) I (BV dm k x (some G)) H':=by
 rcases hg with⟨_,_,J⟩|⟨b,o,u,M,w,L⟩
 ·simp at J
 ·refine⟨BV c k x b,λg j e=>?_,λg j e=>?_,λz B A E s t e=>?_⟩
  ·by_cases f:g=k/\j=x
   ·rw[f.1,f.2,lW] at e;simp at e
   ·rw[jO f] at e ⊢;exact h.nil g j e
  ·by_cases f:g=k/\j=x
   ·obtain⟨rfl,rfl⟩:=f
    simp only[lW];exact⟨o,by rw[M,aS],w,L⟩
   ·rw[jO f] at e
    simp only[jO f];obtain⟨N,s,t,K⟩:=h.own g j e;exact⟨N,s,t,(hk g j e f).1.trans K⟩
  ·by_cases m:z=k/\B=x <;> by_cases p:A=k/\E=x
   ·exact⟨p.1.trans m.1.symm,p.2.trans m.2.symm⟩
   ·rw[jO p] at t e
    rw[m.1,m.2,lW] at e;exact absurd (by rw[u,e]) (hk A E t p).2
   ·rw[jO m] at s e
    rw[p.1,p.2,lW] at e;exact absurd (by rw[u,<-e]) (hk z B s m).2
   ·rw[jO m] at s e
    rw[jO p] at t e;exact h.inj z B A E s t e
def uG (l:List (Int×Int)):Bool->Int->List Int:=λk x=>if k=true then fA l x else cT l x
theorem Mc (l:List (Int×Int))(p:Int×Int):uG (l++[p])=BV (BV (uG l) true p.1 (uG l true p.1++[p.2])) false p.2 (uG l false p.2++[p.1]):=by
 funext k x;cases k
 ·by_cases f:x=p.2
  ·subst f;rw[lW];simp [uG,cT]
  ·rw[jO (by simp [f]),jO (by simp)]
   have:¬p.2=x:=λe=>f e.symm;simp [uG,cT,this]
 ·rw[jO (by simp)]
  by_cases f:x=p.1
  ·subst f;rw[lW];simp [uG,fA]
  ·rw[jO (by simp [f])]
   have:¬p.1=x:=λe=>f e.symm;simp [uG,fA,this]
theorem RG (l:List (Int×Int))(k:Bool)(x:Int):(uG l k x).length<=l.length:=by cases k <;> simp only[uG,ia,dY,dN,fA,cT,aS] <;> exact kU _ _
theorem Il:∀{l:List (Int×Int)}{n:Int}{q:Option (Int×Int)},ry n q l=0->∀p∈l,bN n p.1/\bN n p.2
 |[],n,q,_,p,hp=>by cases hp
 |r::l,n,q,h,p,hp=>by
  simp only[ry] at h;split at h
  ·cases h
  ·split at h
   ·cases h
   ·split at h
    ·rcases bV.1 hp with rfl|hp
     ·unfold bN;omega
     ·exact Il h p hp
    ·cases h
theorem wo (h:fc l n=0):l.length<=65535/\∀p∈l,bN n p.1/\bN n p.2:=by
 unfold fc at h;split at h
 ·cases h
 ·exact⟨by omega,Il h⟩
def NwI (l:List (Int×Int)) (n:Int) (e f:Nat) (H:aA) (i:Nat) (s:St):Prop:=
 s.df=[]/\s.fr 7=fJ n e f/\s.fr 21=.seq 2 (l.map pD)/\s.fr 22=i64 l.length/\s.fr 23=i64 i/\H.le s.H/\∃g h c dm,s.H e=some (.map g)/\s.H f=some (.map h)/\fZ g (dm true)/\fZ h (dm false)/\Et H (uG (l.take i)) c dm s.H
def aC1 (l:List (Int×Int)) (n:Int) (H:aA) (d:D) (H':aA):Prop:=∃e f g h c dm,d=.eO [fJ n e f,i64 0]/\H e=none/\H f=none/\e≠f/\H.le H'/\H' e=some (.map g)/\H' f=some (.map h)/\fZ g (dm true)/\fZ h (dm false)/\Et H (uG l) c dm H'
theorem TB (l:List (Int×Int))(n:Int)(H:aA)(hn:n<=9223372036854775807)(hc:fc l n=0):aN prog 141 [.seq 2 (l.map pD),i64 n] H (aC1 l n H):=by
 have ba:=lm pD l;obtain⟨hl,bl⟩:=wo hc;refine dO func141 ntmps141 results141 λw0 g0 Q aB=>?_;refine t0 ?_;intro U Y O C;refine(GH l n _ (by omega)).q ?_;rw[hc];refine t0 ?_;intro U Y O C;intro A ae v b5 bR bk;refine Y _ ?_;refine cm 7 bk ?_;have a2:A≠v:=lj (aK _ _ _) b5;have ab:H v=none:=(bF.1 b5).2;refine tn ba ?_;refine aO l.length (NwI l n A v H) ⟨rfl,rfl,rfl,rfl,rfl,aQ (aQ (aF _) ae) ab,[],[],λ_ _=>0,λ_ _=>none,(aJ a2).trans (aK _ _ _),aK _ _ _,fZ.nil,fZ.nil,⟨λ_ _ _=>rfl,λk x h=>absurd (by cases k <;> simp [uG,fA,cT]) h,λk x _ _ h _ _=>absurd (by cases k <;> simp [uG,fA,cT]) h⟩⟩ ?_;rintro i s hi ⟨ag,f7,ac,Z,a0,aM,m1,m2,c,dm,K,ak,rV,b8,hF⟩;have hx:=aX i;have be:=aZ i;by_cases B:i<l.length
 case neg=>
  have q1:=lF i l.length;refine ur aB (cA f7 Z a0 q1) ag ?_;rw[bK (by omega)] at hF;exact⟨_,aF _,A,v,m1,m2,c,dm,rfl,ae,ab,a2,aM,K,ak,rV,b8,hF⟩
 have q1:=lT i l.length;have b7:=il B;have w3:=wS i;obtain⟨p,a6⟩:=oX l[i];rw[<-a6] at b7;have R:=Mc (l.take i) p;rw[a6,<-bw B,<-a6] at R;refine tq (bG ac Z a0 q1 b7 hx be (av B ba)) ?_;intro U Y O C;intro b9 bi;refine Y _ ?_;refine cm 9 bi ?_;have b6:=RG (l.take i);have bq:(l.take i).length<=65535:=by rw[bX];omega
 have bm:=bl p (a6▸ao B);have S:(-9223372036854775808<=p.1/\p.1<=9223372036854775807)/\(-9223372036854775808<=p.2/\p.2<=9223372036854775807):=by unfold bN at bm;omega
 refine Ic (λN=>N.df=[]/\N.fr 7=fJ n A v/\N.fr 9=.rp [i64 p.1,i64 p.2]/\N.fr 21=.seq 2 (l.map pD)/\N.fr 22=i64 l.length/\N.fr 23=i64 i/\H.le N.H/\∃m1 m2 c dm,N.H A=some (.map m1)/\N.H v=some (.map m2)/\fZ m1 (dm true)/\fZ m2 (dm false)/\Et H (BV (uG (l.take i)) true p.1 (uG (l.take i) true p.1++[p.2])) c dm N.H) ?_ ?_
 ·have T:=rV.get p.1
  have a4:=rV.ok (P:=prog) underlying3 S.1;have bo:=b6 true p.1;obtain⟨ob,hg,I,aa⟩:=hF.gl true p.1;have a8:ob≠some A:=λe=>by obtain⟨o,J,w⟩:=I A e;rw[K] at w;cases w
  have a7:ob≠some v:=λe=>by obtain⟨o,J,w⟩:=I v e;rw[ak] at w;cases w
  have fin:∀d j g,Gl H 3 1 ((uG (l.take i) true p.1).map iD++[iD p.2]) d j g->H.le j->(∀b z,s.H b=some z->ob≠some b->j b=some z/\g≠some b)->
    j A=some (.map m1)/\H.le (j.aU A (.map (eJ m1 (.int .i64 p.1) d)))/\∃L M c dm,(j.aU A (.map (eJ m1 (.int .i64 p.1) d))) A=some (.map L)/\(j.aU A (.map (eJ m1 (.int .i64 p.1) d))) v=some (.map M)/\fZ L (dm true)/\fZ M (dm false)/\Et H (BV (uG (l.take i)) true p.1 (uG (l.take i) true p.1++[p.2])) c dm (j.aU A (.map (eJ m1 (.int .i64 p.1) d))):=λd j g m u f=>by
   have E:=(f _ _ K a8).1;have G:=(f _ _ ak a7).1;rw[show[iD p.2]=[p.2].map iD from rfl,<-bI] at m;obtain⟨c',a3⟩:=hF.step m λk' x' w al=>by
    obtain⟨o,h1,h2,h3⟩:=hF.own k' x' w;have:=f _ _ h3 (aa k' x' w al);exact⟨this.1.trans h3.symm,this.2⟩
   refine⟨E,aQ u ae,_,m2,c',BV dm true p.1 (some d),aK _ _ _,(aJ a2.symm).trans G,(rV.set S.1 d).congr λx=>by simp [BV],b8.congr λx=>by simp [BV],a3.cM λb z hz ⟨o,J,am⟩=>?_⟩;rw[aJ λe=>by rw[e,E,am] at hz;cases hz];exact hz
  cases hdm:dm true p.1 with
  |none=>
   rw[hdm] at T hg
   refine wE (λt=>t==some 30||t==some 31||t==some 32||t==some 36||t==some 37||t==some 38||t==some 40||t==some 41) (λ_=>false) (λ_ _ _ _=>False) (λ_ _ _ _ _=>False) λU Y=>?_;have fs:=And.intro f7 (And.intro @fJ.eq_1 (And.intro K T));refine uj ?_;refine nx ?_;(try clear fs)
   refine⟨a4,?_⟩
   refine ax (e:=3) fk rfl fk rfl yv rfl (by decide) aM hg (new:=[iD p.2]) (by exact⟨rfl,rfl⟩) (by rw[aS];show(_+1) * 8<=_;omega) λd j g m u f=>?_
   obtain⟨E,G,e3⟩:=fin d j g m u f
   simp only[E]
   exact⟨a4,Y _ ⟨ag,f7,rfl,ac,Z,a0,G,e3⟩⟩
  |some dv=>
   rw[hdm] at T hg
   refine wE (λt=>t==some 30||t==some 31||t==some 32||t==some 36||t==some 37||t==some 38||t==some 40||t==some 41) (λ_=>false) (λ_ _ _ _=>False) (λ_ _ _ _ _=>False) λU Y=>?_;have fs:=And.intro f7 (And.intro @fJ.eq_1 (And.intro K T));refine uj ?_;refine nx ?_;(try clear fs)
   refine⟨a4,?_⟩
   refine ax (e:=3) fk rfl fk rfl yv rfl (by decide) aM hg (new:=[iD p.2]) (by exact⟨rfl,rfl⟩) (by rw[aS];show(_+1) * 8<=_;omega) λd j g m u f=>?_
   obtain⟨E,G,e3⟩:=fin d j g m u f
   simp only[E]
   exact⟨a4,Y _ ⟨ag,f7,rfl,ac,Z,a0,G,e3⟩⟩
 rintro s2 ⟨b0,g7,g9,ap,ar,aw,b3,M1,M2,br,DM,b4,a1,bc,ad,gF⟩;have a9:BV (uG (l.take i)) true p.1 (uG (l.take i) true p.1++[p.2]) false p.2=uG (l.take i) false p.2:=jO (by simp);rw[<-a9] at R;obtain⟨F2,bf⟩:=oX (BV (uG (l.take i)) true p.1 (uG (l.take i) true p.1++[p.2]));rw[<-bf] at gF R a9;have V:=ad.get p.2;have a5:=ad.ok (P:=prog) underlying3 S.2;have bb:=b6 false p.2;rw[<-a9] at bb;obtain⟨ob,hg,I,aa⟩:=gF.gl false p.2;have a8:ob≠some A:=λe=>by obtain⟨o,J,w⟩:=I A e;rw[b4] at w;cases w
 have a7:ob≠some v:=λe=>by obtain⟨o,J,w⟩:=I v e;rw[a1] at w;cases w
 have fin:∀d j g,Gl H 3 1 ((F2 false p.2).map iD++[iD p.1]) d j g->H.le j->(∀b z,s2.H b=some z->ob≠some b->j b=some z/\g≠some b)->
   j v=some (.map M2)/\H.le (j.aU v (.map (eJ M2 (.int .i64 p.2) d)))/\∃L M c dm,(j.aU v (.map (eJ M2 (.int .i64 p.2) d))) A=some (.map L)/\(j.aU v (.map (eJ M2 (.int .i64 p.2) d))) v=some (.map M)/\fZ L (dm true)/\fZ M (dm false)/\Et H (uG (l.take (i+1))) c dm (j.aU v (.map (eJ M2 (.int .i64 p.2) d))):=λd j g m u f=>by
  have E:=(f _ _ b4 a8).1;have G:=(f _ _ a1 a7).1;rw[show[iD p.1]=[p.1].map iD from rfl,<-bI] at m;obtain⟨c',a3⟩:=gF.step m λk' x' w al=>by
   obtain⟨o,h1,h2,h3⟩:=gF.own k' x' w;have:=f _ _ h3 (aa k' x' w al);exact⟨this.1.trans h3.symm,this.2⟩
  rw[<-R] at a3;refine⟨G,aQ u ab,M1,_,c',BV DM false p.2 (some d),(aJ a2).trans E,aK _ _ _,bc.congr λx=>by simp [BV],(ad.set S.2 d).congr λx=>by simp [BV],a3.cM λb z hz ⟨o,J,am⟩=>?_⟩;rw[aJ λe=>by rw[e,G,am] at hz;cases hz];exact hz
 cases hdm:DM false p.2 with
 |none=>
  rw[hdm] at V hg
  refine wE (λt=>t==some 47||t==some 48||t==some 49||t==some 53||t==some 54||t==some 55||t==some 57||t==some 58) (λ_=>false) (λ_ _ _ _=>False) (λ_ _ _ _ _=>False) λU Y=>?_;have fs:=And.intro g7 (And.intro g9 (And.intro @fJ.eq_1 (And.intro a1 V)));refine uj ?_;refine nx ?_;(try clear fs)
  refine⟨a5,?_⟩
  refine ax (e:=3) fk rfl fk rfl yv rfl (by decide) b3 hg (new:=[iD p.1]) (by exact⟨rfl,rfl⟩) (by rw[aS];show(_+1) * 8<=_;omega) λd j g m u f=>?_
  obtain⟨E,G,e3⟩:=fin d j g m u f
  simp only[E]
  refine⟨a5,?_⟩
  refine tn (av aw w3) ?_
  exact⟨B,b0,g7,ap,ar,rfl,G,e3⟩
 |some dv=>
  rw[hdm] at V hg
  refine wE (λt=>t==some 47||t==some 48||t==some 49||t==some 53||t==some 54||t==some 55||t==some 57||t==some 58) (λ_=>false) (λ_ _ _ _=>False) (λ_ _ _ _ _=>False) λU Y=>?_;have fs:=And.intro g7 (And.intro g9 (And.intro @fJ.eq_1 (And.intro a1 V)));refine uj ?_;refine nx ?_;(try clear fs)
  refine⟨a5,?_⟩
  refine ax (e:=3) fk rfl fk rfl yv rfl (by decide) b3 hg (new:=[iD p.1]) (by exact⟨rfl,rfl⟩) (by rw[aS];show(_+1) * 8<=_;omega) λd j g m u f=>?_
  obtain⟨E,G,e3⟩:=fin d j g m u f
  simp only[E]
  refine⟨a5,?_⟩
  refine tn (av aw w3) ?_
  exact⟨B,b0,g7,ap,ar,rfl,G,e3⟩
def AQ (F:Int->List Int):Value->D
 | .int _ x=>.seq 1 ((F x).map iD)
 |_=>.Ep
theorem Dc {F:Bool->Int->List Int}{m:List (Value×D)}(h:Et H F c dm H')(hi:fZ m (dm k))(hd:Es H0 H')(hn:∀b o els,H' b=some (.row 3 o 1 els)->H b=none->H0 b=none):
  (m.map (·.1)).Nodup->∀p∈m,uq H0 H' p.2 (AQ (F k) p.1):=λf p t=>by
 obtain⟨x,w,j⟩:=hi.keys p t;have e:=xy f t;rw[j,hi.get] at e;rw[j];by_cases s:F k x=[]
 ·rw[h.nil k x s] at e;cases e
 ·obtain⟨o,u,v,g⟩:=h.own k x s
  rw[u] at e;injection e with e
  rw[<-e];have:=Nz (k:=0) (n:=(F k x).length) hd g (hn _ _ _ g v) (by rw[aS];omega);rw[dj,bK (by rw[aS];exact bh _)] at this;exact this
theorem Dd {F:Bool->Int->List Int}{m:List (Value×D)}(f:Et H F c dm H')(hi:fZ m (dm k)):fZ (m.map λp=>(p.1,AQ (F k) p.1)) λx=>Aa (F k x):=
 (hi.aCj (AQ (F k))).congr λx=>by
  unfold Aa;by_cases e:F k x=[]
  ·rw[f.nil k x e,aD e];rfl
  ·obtain⟨o,g,_⟩:=f.own k x e
   rw[g,aC e];rfl
theorem Up (l:List (Int×Int))(n:Int)(H:aA)(hn:n<=9223372036854775807)(hc:fc l n=0):aN prog 141 [.seq 2 (l.map pD),i64 n] H λd H'=>∃g h J K,d=.eO [fJ n g h,i64 0]/\H g=none/\H h=none/\g≠h/\H'=(H.aU g (.map J)).aU h (.map K)/\oc l g h H'/\H.le H':=
 (TB l n H hn hc).xQ λd H' ⟨g,h,J,K,c,dm,P,z,A,I,R,s,t,V,E,L⟩=>by
  obtain⟨H0,j⟩:=oX ((H.aU g (.map (J.map λp=>(p.1,AQ (uG l true) p.1)))).aU h (.map (K.map λp=>(p.1,AQ (uG l false) p.1))));have T:H0 h=some (.map (K.map λp=>(p.1,AQ (uG l false) p.1))):=by rw[j,aK]
  have S:H0 g=some (.map (J.map λp=>(p.1,AQ (uG l true) p.1))):=by rw[j,aJ I,aK]
  have N:∀b,b≠g->b≠h->H0 b=H b:=λb m u=>by rw[j,aJ u,aJ m]
  have B:Es H0 H':=λb f=>by
   rw[N b (λe=>by rw[e,s] at f;cases f) (λe=>by rw[e,t] at f;cases f)];cases hx:H b with
   |none=>rfl
   |some x=>rw[R _ _ hx] at f;cases f
  have G:∀b o v,H' b=some (.row 3 o 1 v)->H b=none->H0 b=none:=λb o v m u=>by
   rw[N b (λe=>by rw[e,s] at m;cases m) (λe=>by rw[e,t] at m;cases m)];exact u
  have M:H.le H0:=by rw[j];exact aQ (aQ (aF _) z) A
  refine⟨d,H0,B,λw Z=>Z.xQ B λb x f=>?_,AM B,g,h,_,_,P,z,A,I,j,⟨_,_,S,Dd L V,T,Dd L E⟩,M⟩;by_cases m:b=g
  ·subst m
   rw[S] at f;injection f with f
   exact .inr ⟨J,AQ (uG l true),s,f.symm,Dc L V B G⟩
  ·by_cases u:b=h
   ·subst u
    rw[T] at f;injection f with f
    exact .inr ⟨K,AQ (uG l false),t,f.symm,Dc L E B G⟩
   ·rw[N b m u] at f
    exact .inl (R _ _ f)
noncomputable def Bh (l:List (Int×Int)) (n:Int) (ts:List bp):Nat->Int->Int->Bool
 |0,_,_=>false
 |k+1,a,b=>
  decide ((bY ts a).k=(bY ts b).k)&&(decide ((bY ts a).m=(bY ts b).m)&&(decide ((bY ts a).ar.length=(bY ts b).ar.length)&&
   ((if (bY ts a).k=3 then gh l n (bY ts a).r (bY ts b).r&&(Bh l n ts k (bY ts a).e (bY ts b).e&&(!(bY ts a).m||Bh l n ts k (bY ts b).e (bY ts a).e)) else true)&&
    ((bY ts a).ar.zip (bY ts b).ar).all λp=>Bh l n ts k p.1 p.2)))
theorem tA (g:pI ts):∀(k:Nat) (a b:Int),bN ts.length a->bN ts.length b->a<k->b<k->∀f,k<=f->Bh l n ts f a b=Bh l n ts k a b
 |0,a,b,ha,_,hk,_,_,_=>by unfold bN at ha;omega
 |k+1,a,b,ha,hb,hak,hbk,0,hk'=>by omega
 |k+1,a,b,ha,hb,hak,hbk,f+1,hk'=>by
  have s:=qx g ha;have t:=qx g hb;unfold bN at ha hb;simp only[Bh];by_cases o:(bY ts a).k=(bY ts b).k
  case neg=>simp [o]
  congr 1;congr 1;congr 1;have m:(((bY ts a).ar.zip (bY ts b).ar).all λp=>Bh l n ts f p.1 p.2)=(((bY ts a).ar.zip (bY ts b).ar).all λp=>Bh l n ts k p.1 p.2):=by
   rw[Bool.eq_iff_iff,dK,dK];refine forall_congr' λp=>forall_congr' λu=>?_;have e:=List.of_mem_zip u;have h:=s.2 _ e.1;have j:=t.2 _ e.2;rw[tA g k p.1 p.2 ⟨h.1,by omega⟩ ⟨j.1,by omega⟩ (by omega) (by omega) f (by omega)]
  rw[m];congr 1;by_cases e:(bY ts a).k=3
  ·rw[aD e,aD e]
   have h:=s.1 e;have j:=t.1 (o▸e);rw[tA g k _ _ ⟨h.1,by omega⟩ ⟨j.1,by omega⟩ (by omega) (by omega) f (by omega),tA g k _ _ ⟨j.1,by omega⟩ ⟨h.1,by omega⟩ (by omega) (by omega) f (by omega)]
  ·rw[aC e,aC e]
noncomputable def ky (l:List (Int×Int)) (n:Int) (ts:List bp) (a b:Int):Bool:=Bh l n ts ts.length a b
theorem Jv {l:List (Int×Int)}{n:Int}(f:pI ts)(ha:bN ts.length a)(hb:bN ts.length b):
  ky l n ts a b=(decide ((bY ts a).k=(bY ts b).k)&&(decide ((bY ts a).m=(bY ts b).m)&&(decide ((bY ts a).ar.length=(bY ts b).ar.length)&&
   ((if (bY ts a).k=3 then gh l n (bY ts a).r (bY ts b).r&&(ky l n ts (bY ts a).e (bY ts b).e&&(!(bY ts a).m||ky l n ts (bY ts b).e (bY ts a).e)) else true)&&
    ((bY ts a).ar.zip (bY ts b).ar).all λp=>ky l n ts p.1 p.2)))):=by
 have h:=tA (l:=l) (n:=n) f ts.length a b ha hb (by unfold bN at ha;omega) (by unfold bN at hb;omega) (ts.length+1) (by omega);unfold ky;rw[<-h];simp only[Bh]
open Classical in
noncomputable def y8 (l:List (Int×Int)) (n:Int) (ts:List bp) (a b:Int):Bool:=if bN ts.length a/\bN ts.length b then ky l n ts a b else false
theorem xU (h:¬(bN ts.length a/\bN ts.length b)):y8 l n ts a b=false:=aC h
theorem BC (ha:bN ts.length a)(hb:bN ts.length b):y8 l n ts a b=ky l n ts a b:=aD ⟨ha,hb⟩
theorem MS {f:Int->Int->Bool}(h:∀j (h:j<x.length) (h':j<y.length),f x[j] y[j]=true):((x.zip y).all λp=>f p.1 p.2)=true:=by
 rw[dK];intro p g;obtain⟨j,e,rfl⟩:=kV g;rw[List.length_zip] at e;rw[List.getElem_zip];exact h j (by omega) (by omega)
theorem MR {f:Int->Int->Bool}{j:Nat}(h1:j<x.length)(h2:j<y.length)(h:f x[j] y[j]=false):((x.zip y).all λp=>f p.1 p.2)=false:=by
 rw[Bool.eq_false_iff];intro e;rw[dK] at e;have g:j<(x.zip y).length:=by rw[List.length_zip];omega
 have:=e _ (ao g);rw[List.getElem_zip,h] at this;cases this
theorem Wk (l:List (Int×Int))(n:Int)(ts:List bp)(hw:pI ts)(b2:∀p∈l,bN n p.1/\bN n p.2)(hn:n<=1000000)(hl:l.length<=1000000)(bk:ts.length<=1000000)(b1:∀t∈ts,t.ar.length<=140737488351232):
  ∀(kk:Nat) (a b:Int) (H:aA),a<kk->b<kk->aN prog 261 [.seq 2 (l.map pD),i64 n,.seq 5 (ts.map bS),i64 a,i64 b] H λd H'=>d=.val (.bool (y8 l n ts a b))/\H=H':=by
 intro kk
 induction kk using Nat.strongRecOn with
 |ind kk ih=>
  intro a b H bf bi
  refine aq (K:=λd=>d=.val (.bool (y8 l n ts a b))) ?_
  have P:=lm bS ts
  refine dO func261 ntmps261 results261 λw0 g0 Q M=>?_
  have z:=aF H
  by_cases h1:a<0
  ·have p1:(a<0)=True:=aG h1
   have g:=xU (l:=l) (n:=n) (ts:=ts) (a:=a) (b:=b) λh=>by have:=h.1.1;omega
   refine ur M p1 trivial ?_;exact zf z (by rw[g])
  have p1:(a<0)=False:=aI h1
  by_cases h2:(ts.length:Int)<=a
  ·have p2:((ts.length:Int)<=a)=True:=aG h2
   have g:=xU (l:=l) (n:=n) (ts:=ts) (a:=a) (b:=b) λh=>by have:=h.1.2;omega
   refine ur M (bQ p1 p2 P) trivial ?_;exact zf z (by rw[g])
  have p2:((ts.length:Int)<=a)=False:=aI h2
  by_cases h3:b<0
  ·have p3:(b<0)=True:=aG h3
   have g:=xU (l:=l) (n:=n) (ts:=ts) (a:=a) (b:=b) λh=>by have:=h.2.1;omega
   refine ur M (cA p1 p2 p3 P) trivial ?_;exact zf z (by rw[g])
  have p3:(b<0)=False:=aI h3
  by_cases h4:(ts.length:Int)<=b
  ·have p4:((ts.length:Int)<=b)=True:=aG h4
   have g:=xU (l:=l) (n:=n) (ts:=ts) (a:=a) (b:=b) λh=>by have:=h.2.2;omega
   refine ur M (cw p1 p2 p3 p4 P) trivial ?_;exact zf z (by rw[g])
  have p4:((ts.length:Int)<=b)=False:=aI h4
  have ha:bN ts.length a:=⟨by omega,by omega⟩
  have hb:bN ts.length b:=⟨by omega,by omega⟩
  have e:=(BC (l:=l) (n:=n) ha hb).trans (Jv hw ha hb)
  have a0:=gY ha
  have a1:=gY hb
  have wa:=qx hw ha
  have wb:=qx hw hb
  have a8:(bY ts a).ar.length<=140737488351232:=by obtain⟨h',he⟩:=qM ha;rw[he];exact b1 _ (ao h')
  obtain⟨t,ht⟩:=oX (bY ts a)
  obtain⟨u,hu⟩:=oX (bY ts b)
  rw[<-ht] at a0 e wa a8
  rw[<-hu] at a1 e wb
  obtain⟨v,tm,tr,te,B⟩:=t
  obtain⟨uk,um,S,ue,L⟩:=u
  simp only[bS] at a0 a1 e wa wb a8
  have ad:0<=a:=ha.1
  have ae:0<=b:=hb.1
  have ag:a.toNat<ts.length:=by omega
  have ak:b.toNat<ts.length:=by omega
  have a9:a<(ts.length:Int):=by omega
  have ab:b<(ts.length:Int):=by omega
  refine tq (bG p1 p2 p3 p4 P a0 a1 (eP ad ae ag ak a9 ab)) ?_;intro U Y O C
  intro bc b0
  refine Y _ ?_
  refine cm 11 b0 ?_
  refine tq (bG P a0 a1 ad ae ag ak (av a9 ab)) ?_;intro U Y O C
  intro be aw
  refine Y _ ?_
  refine cm 12 aw ?_
  have J:=lm iD B
  have a2:=lm iD L
  by_cases g1:v=uk
  case neg=>
   have q1:(v=uk)=False:=aI g1;have g:y8 l n ts a b=false:=by rw[e];simp [g1]
   refine ur M q1 trivial ?_;exact zf z (by rw[g])
  have q1:(v=uk)=True:=aG g1
  by_cases g2:tm=um
  case neg=>
   have q2:(tm=um)=False:=aI g2;have g:y8 l n ts a b=false:=by rw[e];simp [g2]
   refine ur M (av q1 q2) trivial ?_;exact zf z (by rw[g])
  have q2:(tm=um)=True:=aG g2
  by_cases g3:B.length=L.length
  case neg=>
   have q3:=nF ((B.length:Int)=(L.length:Int));have g:y8 l n ts a b=false:=by rw[e];simp [g3]
   refine ur M (cw q1 q2 q3 J a2) trivial ?_;exact zf z (by rw[g])
  have q3:=nT ((B.length:Int)=(L.length:Int))
  rw[ah g1,ah g2,ah g3,cV,cV,cV] at e
  refine tn (cw q1 q2 q3 J a2) ?_
  refine aO B.length (λi s=>s.df=[]/\s.fr 0=.seq 2 (l.map pD)/\s.fr 1=i64 n/\s.fr 2=.seq 5 (ts.map bS)/\s.fr 11=.rp [i64 v,.val (.bool tm),i64 tr,i64 te,.seq 1 (B.map iD)]/\s.fr 12=.rp [i64 uk,.val (.bool um),i64 S,i64 ue,.seq 1 (L.map iD)]/\s.fr 13=i64 i/\s.H=H/\∀j (h:j<B.length) (h':j<L.length),j<i->ky l n ts B[j] L[j]=true) ⟨rfl,rfl,rfl,rfl,rfl,rfl,rfl,rfl,by simp⟩ ?_
  rintro i s hi ⟨I,T,V,Z,m,w,o,hH,a7⟩
  have hx:=aX i
  have ac:=aZ i
  by_cases N:i<B.length
  case pos=>
   have q4:=lT i B.length;have R:i<L.length:=by omega
   have a3:=bT N;have a4:=bT R;have w3:=wS i;have b7:=wa.2 B[i] (ao N);have b8:=wb.2 L[i] (ao R);have b6:=BC (l:=l) (n:=n) (ts:=ts) (a:=B[i]) (b:=L[i]) ⟨b7.1,by omega⟩ ⟨b8.1,by omega⟩;have G:cP prog 261 [.seq 2 (l.map pD),i64 n,.seq 5 (ts.map bS),i64 B[i],i64 L[i]] H λd A=>A=aA.none/\d=.val (.bool (y8 l n ts B[i] L[i])):=
    an λap bb=>ih (kk - 1) (by omega) B[i] L[i] ap (by omega) (by omega)
   rw[b6] at G;refine tq (cA m o J q4) ?_;intro U Y O C;obtain⟨x,a5⟩:=oX B[i];obtain⟨y,a6⟩:=oX L[i];rw[<-a5] at a3 G;rw[<-a6] at a4 G;cases hv:ky l n ts x y with
   |false=>
    rw[hv] at G
    refine dE (λ_ _ d A=>A=.none/\d=.val (.bool false)) λU Y=>?_;refine dst (bG T V Z m w o J (bG a2 a3 a4 hx ac N R hH)) ?_;intro U Y O C
    refine⟨G,Y _ ?_⟩
    refine ur M trivial I ?_
    have b9:=MR (f:=ky l n ts) N R (by rw[<-a5,<-a6];exact hv)
    exact zf z (by rw[e,b9,fq])
   |true=>
    rw[hv] at G
    refine dE (λ_ _ d A=>A=.none/\d=.val (.bool true)) λU Y=>?_;refine dst (bG T V Z m w o J (bG a2 a3 a4 hx ac N R hH)) ?_;intro U Y O C
    refine⟨G,Y _ ?_⟩
    refine tq (av o w3) ?_;intro U Y O C
    refine⟨N,I,T,V,Z,m,w,rfl,rfl,λj h h' hj=>?_⟩
    by_cases b3:j=i
    ·subst b3;rw[<-a5,<-a6];exact hv
    ·exact a7 j h h' (by omega)
  case neg=>
   have q4:=lF i B.length;have ba:=MS (f:=ky l n ts) (x:=B) (y:=L) λj h h'=>a7 j h h' (by omega);rw[ba,fu] at e;have E:H.le s.H:=by rw[hH];exact z
   by_cases h5:v=3
   case neg=>
    have q5:(v=3)=False:=aI h5;rw[aC h5] at e;refine ur M (cw m o J q4 q5) I ?_;exact zf E (by rw[e])
   have q5:(v=3)=True:=aG h5;rw[aD h5] at e;have al:=wa.1 h5;have am:=wb.1 (g1▸h5);have b4:=BC (l:=l) (n:=n) (ts:=ts) (a:=te) (b:=ue) ⟨al.1,by omega⟩ ⟨am.1,by omega⟩;have b5:=BC (l:=l) (n:=n) (ts:=ts) (a:=ue) (b:=te) ⟨am.1,by omega⟩ ⟨al.1,by omega⟩;refine tq (bG T V Z m w o J (av q4 q5)) ?_;intro U Y O C;refine(JT l n tr S _ b2 hn hl).q ?_;cases ho:gh l n tr S with
   |false=>
    rw[ho,dq] at e
    refine ur M (eP T V Z m w o) I ?_
    exact zf E (by rw[e])
   |true=>
    rw[ho,cV] at e
    refine tq (eP T V Z m w o) ?_;intro U Y O C
    refine(ih (kk - 1) (by omega) te ue _ (by omega) (by omega)).q ?_
    rw[b4]
    cases hs1:ky l n ts te ue with
    |false=>
     rw[hs1,dq] at e
     refine ur M (eP T V Z m w o) I ?_
     exact zf E (by rw[e])
    |true=>
     rw[hs1,cV] at e
     by_cases tY:tm=true
     case neg=>
      have aa:tm=false:=by simpa using tY
      rw[aa] at e;refine ur M (ej T V Z m w o aa) I ?_;exact⟨_,aF _,E,_,aL E,by rw[e] <;> rfl⟩
     rw[tY] at e
     refine tq (ej T V Z m w o tY) ?_;intro U Y O C
     refine(ih (kk - 1) (by omega) ue te _ (by omega) (by omega)).q ?_
     rw[b5]
     refine ur M (ej T V Z m w o tY) I ?_
     exact⟨_,aF _,E,_,aL E,by rw[e] <;> rfl⟩
def mD (t:bp):List Int:=if t.k=3 then [t.e] else t.ar
def TP (t:bp):List Int:=t.ar
inductive BZ (par:bp->List Int) (ts:List bp):Int->Int->Prop
 |refl (a:Int):BZ par ts a a
 |step {a p b:Int}(h:p∈par (bY ts a)) (h2:BZ par ts p b):BZ par ts a b
theorem BZ.iff:BZ par ts a b↔a=b\/∃p∈par (bY ts a),BZ par ts p b:=by
 constructor
 ·intro h
  cases h with
  |refl=>exact .inl rfl
  |step h e=>exact .inr ⟨_,h,e⟩
 ·rintro(rfl|⟨p,f,h⟩)
  ·exact .refl _
  ·exact .step f h
theorem BZ.trans {c:Int}(h:BZ par ts a b):BZ par ts b c->BZ par ts a c:=by
 induction h with
 |refl=>exact id
 |step h _ f=>exact λe=>.step h (f e)
def Dn (par:bp->List Int) (ts:List bp):Prop:=∀a,bN ts.length a->∀p∈par (bY ts a),0<=p/\p<a
theorem Dn.A (h:pI ts):Dn mD ts:=λa g p e=>by
 have:=qx h g;unfold mD at e;split at e
 ·rename_i f
  rw[bM] at e;rw[e];exact this.1 f
 ·exact this.2 p e
theorem Dn.F (g:pI ts):Dn TP ts:=λa e p f=>(qx g e).2 p f
theorem BZ.le (hd:Dn par ts)(h:BZ par ts a b):bN ts.length a->0<=b/\b<=a:=by
 induction h with
 |refl=>exact λe=>⟨e.1,kJ _⟩
 |step j _ m=>
  intro e
  have f:=hd _ e _ j
  have g:=m ⟨f.1,Int.lt_trans f.2 e.2⟩
  exact⟨g.1,by omega⟩
def Qv (ts:List bp) (i r:Int):Prop:=bN ts.length i/\∃b,BZ mD ts i b/\(bY ts b).k=3/\(bY ts b).r=r
open Classical in
noncomputable def Ja (ts:List bp) (i r:Int):Bool:=decide (Qv ts i r)
theorem Su:Ja ts i r=true↔Qv ts i r:=by simp [Ja]
noncomputable def xR (ts:List bp) (i:Int):List Int:=((List.range 1000000).map Int.ofNat).filter λr=>Ja ts i r
theorem GJ (ts:List bp)(i:Int):(xR ts i).Pairwise (·<·):=by
 refine List.Pairwise.filter _ ?_;rw[rE];exact tI.imp λh=>by show(_:Int)<_;simp only[Int.ofNat_eq_natCast];omega
theorem Al:r∈xR ts i↔bN 1000000 r/\Qv ts i r:=by
 unfold xR;rw[fN,cD,Su];constructor
 ·rintro⟨⟨k,g,rfl⟩,h⟩
  rw[ib] at g;exact⟨⟨aZ _,by simp only[Int.ofNat_eq_natCast];omega⟩,h⟩
 ·rintro⟨e,f⟩
  unfold bN at e;exact⟨⟨r.toNat,by rw[ib];omega,by simp only[Int.ofNat_eq_natCast];omega⟩,f⟩
def Qk (ts:List bp) (i:Int):Prop:=bN ts.length i/\∀b,BZ TP ts i b->¬((bY ts b).k=3/\(bY ts b).m=true)
open Classical in
noncomputable def jD (ts:List bp) (i:Int):Bool:=decide (Qk ts i)
theorem sC:jD ts i=true↔Qk ts i:=by simp [jD]
theorem pV:jD ts i=false↔¬Qk ts i:=by simp [jD]
theorem Ip (s:pI ts)(hi:bN ts.length i):Qk ts i↔¬((bY ts i).k=3/\(bY ts i).m=true)/\∀p∈(bY ts i).ar,Qk ts p:=by
 have o:=Dn.F s;constructor
 ·rintro⟨_,h⟩
  refine⟨h i (.refl _),λp e=>?_⟩;have:=o i hi p e;exact⟨⟨this.1,Int.lt_trans this.2 hi.2⟩,λb f=>h b (.step e f)⟩
 ·rintro⟨g,j⟩
  refine⟨hi,λb f=>?_⟩;rcases BZ.iff.1 f with rfl|⟨p,e,h⟩
  ·exact g
  ·exact(j p e).2 b h
def dU (p:gR):Bool:=decide (p.lo=0)&&decide (p.pr.length=0)
def mB (b:bn) (p:gR):Int×Int:=bJ b.ty b.lc p
noncomputable def kx (b:bn) (o:gq):Int:=
 if o.k<0\/4<o.k then 14
 else if (o.n≠0/\o.k≠2/\o.k≠3)\/(1<o.k/\dU o.pl=false) then 2
 else if o.k=3/\o.n≠0/\o.n≠1 then 3
 else if 1<o.k then 0
 else if (mB b o.pl).2≠0 then (mB b o.pl).2
 else if (o.k=0/\jD b.ty (mB b o.pl).1=false)\/(o.k=1/\pC o.pl 0=true) then 22 else 0
def tc (b:bn) (o:gq):Int:=if o.k=2 then 2 else if o.k=3 then 1 else if o.k=4 then 0 else (bY b.ty (mB b o.pl).1).k
noncomputable def nW (b:bn) (o:gq) (t:Int):Bool:=if 1<o.k then decide (tc b o=(bY b.ty t).k) else y8 b.ol b.rg.length b.ty (mB b o.pl).1 t
noncomputable def eM (b:bn):List gq->List Int->Int
 |[],_=>0
 |o::l,fs=>if kx b o≠0 then kx b o else match fs with
  |[]=>eM b l []
  |f::fs=>if nW b o f=false then 22 else eM b l fs
def VF (op:Int):Int×Int:=if op=0 then (2,2) else (1,1)
def HA (op:Int):Int×Int:=if op=5 then (1,1) else if 3<=op then (2,1) else (2,2)
noncomputable def oj (b:bn) (r:tx) (t:Int) (n:Int) (x:Int×Int):Int:=
 if r.op<0\/n<=r.op then 14
 else if eM b r.ar []≠0 then eM b r.ar []
 else if (r.ar.all λo=>decide (tc b o=x.1))=false then 22
 else if (bY b.ty t).k≠x.2 then 22 else 0
noncomputable def vE (b:bn) (r:tx) (t:Int):Int:=
 if (mB b r.pl).2≠0 then (mB b r.pl).2
 else if r.rg<0\/(b.rg.length:Int)<=r.rg then 3
 else if (bY b.ty t).k≠3\/(bY b.ty t).r≠r.rg\/(bY b.ty t).m≠r.mu\/(bY b.ty t).e≠(mB b r.pl).1\/(r.mu=true/\ml b.ty b.lc r.pl=false) then 22
 else if ((tj b.ty b.lc r.pl).all λq=>gh b.ol b.rg.length q r.rg)=false then 22 else 0
def tv (r:tx):Bool:=
 if r.k=1 then decide (r.op=0)&&decide (r.ar.length=0)
 else (decide (r.rg=0)&& !r.mu&&dU r.pl)&&(if r.k=0 then decide (r.op=0)&&decide (r.ar.length=1) else if r.k=2 then decide (r.ar.length=1) else if r.k=3 then decide (r.ar.length=2) else decide (r.op=0))
noncomputable def Cd (b:bn) (r:tx) (t:Int):Int:=
 if r.k<0\/4<r.k then 14
 else if tv r=false then 2
 else if r.k=0 then eM b r.ar [t]
 else if r.k=1 then vE b r t
 else if r.k=2 then oj b r t 2 (VF r.op)
 else if r.k=3 then oj b r t 6 (HA r.op)
 else if (bY b.ty t).k≠4\/(bY b.ty t).ar.length≠r.ar.length then 22 else eM b r.ar (bY b.ty t).ar
def qy (b:bn) (p:gR):Int:=if (mB b p).2≠0 then (mB b p).2 else if ml b.ty b.lc p=false then 22 else 0
def FB (s:qO):Bool:=dU s.pl&&(decide (s.rv.k=0)&&decide (s.rv.op=0)&&decide (s.rv.ar.length=0)&&decide (s.rv.rg=0)&& !s.rv.mu&&dU s.rv.pl)
noncomputable def yY (b:bn) (s:qO):Int:=
 if s.k=0 then (if s.lo≠0 then 2 else if qy b s.pl≠0 then qy b s.pl else Cd b s.rv (mB b s.pl).1)
 else if s.k=1 then (if FB s=false then 2 else if s.lo<0\/(b.lc.length:Int)<=s.lo then 3 else 0)
 else if s.k=2 then (if FB s=false\/s.lo≠0 then 2 else 0)
 else 14
def nX (t:ra):Bool:=
 if t.k=0 then (decide (t.tg.length=1)&&decide (t.ar.length=0))&&dU t.pl&&decide (t.nm=ByteArray.empty)
 else if t.k=1 then (decide (t.tg.length=2)&&decide (t.ar.length=1))&&dU t.pl&&decide (t.nm=ByteArray.empty)
 else if t.k=3 then decide (t.tg.length=1)
 else if t.k=4 then (decide (t.tg.length=1)&&decide (t.ar.length=0))&&decide (t.nm=ByteArray.empty)
 else (decide (t.tg.length=0)&&decide (t.ar.length=0))&&dU t.pl&&decide (t.nm=ByteArray.empty)
def BS (t:ra):gq:=t.ar.getD 0 ⟨0,⟨0,[]⟩,0⟩
noncomputable def tw (b:bn) (t:ra):Int:=
 if t.k<0\/5<t.k then 14
 else if nX t=false then 2
 else if (t.tg.all λx=>decide (bN b.bl.length x))=false then 3
 else if t.k=1 then (if kx b (BS t)≠0 then kx b (BS t) else if tc b (BS t)≠1 then 22 else 0)
 else if t.k=3 then (if eY t.nm=false then 12 else if 65535<t.ar.length then 15 else if eM b t.ar []≠0 then eM b t.ar [] else qy b t.pl)
 else if t.k=4 then (if (mB b t.pl).2≠0 then (mB b t.pl).2 else if pC t.pl 0=true then 22 else 0)
 else 0
def rY (seen:List ByteArray):List ByteArray->Int
 |[]=>0
 |s::l=>if eY s=false then 12 else if rQ seen s<seen.length then 21 else rY (seen++[s]) l
def kP (l:List ByteArray):Int:=if 65535<l.length then 15 else rY [] l
def oV (n:Nat) (seen:List ByteArray):List mQ->Int
 |[]=>0
 |x::l=>if eY x.nm=false then 12 else if rQ seen x.nm<seen.length then 21 else if ¬bN n x.ty then 3 else oV n (seen++[x.nm]) l
def th (b:bn):Int:=if 65535<b.lc.length then 15 else if oV b.ty.length [] b.lc≠0 then oV b.ty.length [] b.lc else if b.ag<0\/(b.lc.length:Int)<b.ag then 3 else 0
noncomputable def nC (b:bn):Int:=
 if eY b.nm=false then 12
 else if kP b.rg≠0 then kP b.rg
 else if fc b.ol b.rg.length≠0 then fc b.ol b.rg.length
 else if rT b.ty b.rg.length≠0 then rT b.ty b.rg.length
 else if th b≠0 then th b
 else if b.bl.length=0\/65535<b.bl.length then 15 else 0
noncomputable def rZ (b:bn):List qO->Int
 |[]=>0
 |s::l=>if yY b s≠0 then yY b s else rZ b l
noncomputable def rn (b:bn):List im->Int
 |[]=>0
 |x::l=>if 65535<x.st.length then 15 else if rZ b x.st≠0 then rZ b x.st else if tw b x.tm≠0 then tw b x.tm else rn b l
noncomputable def oM (b:bn):Int:=if nC b≠0 then nC b else rn b b.bl
structure aD4 (b:bn):Prop where
 wt:pI b.ty
 wl:Gi b.ty b.lc
 ol:∀p∈b.ol,bN b.rg.length p.1/\bN b.rg.length p.2
 cr:fc b.ol b.rg.length=0
theorem Oc:∀{l:List mQ}{seen:List ByteArray},oV ts.length seen l=0->Gi ts l
 |[],_,_=>λx h=>by cases h
 |y::l,seen,h=>λx hx=>by
  simp only[oV] at h;split at h
  ·cases h
  ·split at h
   ·cases h
   ·split at h
    ·cases h
    ·rename_i h3
     rcases bV.1 hx with rfl|hx
     ·exact eC h3
     ·exact Oc h x hx
end Go.Proofs.YtffgfafbffdgaaaGreatDoor
