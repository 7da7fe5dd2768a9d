/- Lemmas and contracts of functions, several texts in one. -/
import Derived.Test.YtffgfafbffdgaaaGreatDoorR17
set_option maxRecDepth 100000
set_option maxHeartbeats 4000000
set_option linter.all false
namespace Go.Proofs.YtffgfafbffdgaaaGreatDoor
open Go.RowKit
open Tryz
variable {k:Bool}{x y:List Int}{H0 H H':aA}{c:Bool->Int->Nat}{dm:Bool->Int->Option D}{l:List (Int×Int)}{n a b i r:Int}{ts:List bp}{par:bp->List Int}
def BV {d:Type}(F:Bool->Int->d) (k:Bool) (x:Int) (v:d):Bool->Int->d:=λe f=>if e=k/\f=x then v else F e f
theorem lW {d:Type}(F:Bool->Int->d)(k:Bool)(x:Int)(v:d):BV F k x v k x=v:=aD ⟨rfl,rfl⟩
theorem jO {f:Type}{F:Bool->Int->f}{d:Bool}{x e:Int}{v:f}(h:¬(d=k/\e=x)):BV F k x v d e=F d e:=aC h
structure Et (H0:aA) (F:Bool->Int->List Int) (c:Bool->Int->Nat) (dm:Bool->Int->Option D) (H:aA):Prop where
 nil:∀k x,F k x=[]->dm k x=none
 own:∀k x,F k x≠[]->∃o,dm k x=some (.os (c k x) o 1 0 (F k x).length)/\H0 (c k x)=none/\H (c k x)=some (.row 3 o 1 ((F k x).map iD))
 inj:∀k x k' x',F k x≠[]->F k' x'≠[]->c k x=c k' x'->k'=k/\x'=x
theorem Et.cM {F:Bool->Int->List Int}(h:Et H0 F c dm H)(hk:∀b z,H b=some z->(∃o els,z=.row 3 o 1 els)->H' b=some z):Et H0 F c dm H' where
 nil:=h.nil
 own:=λk x hx=>by
  obtain⟨o,h1,h2,h3⟩:=h.own k x hx;exact⟨o,h1,h2,hk _ _ h3 ⟨_,_,rfl⟩⟩
 inj:=h.inj
theorem Et.gl {F:Bool->Int->List Int}(h:Et H0 F c dm H)(k:Bool)(x:Int):
  ∃ob,Gl H0 3 1 ((F k x).map iD) ((dm k x).getD (.val (.slice none 0 0))) H ob/\(∀b,ob=some b->∃o els,H b=some (.row 3 o 1 els))/\∀f g,F f g≠[]->¬(f=k/\g=x)->ob≠some (c f g):=by
 by_cases j:F k x=[]
 ·exact⟨none,.inl ⟨rfl,by rw[h.nil k x j] <;> rfl,by rw[j] <;> rfl⟩,(λb d=>by cases d),λ_ _ _ _ e=>by cases e⟩
 ·obtain⟨o,s,t,p⟩:=h.own k x j
  refine⟨some (c k x),.inr ⟨c k x,o,rfl,by rw[s,aS] <;> rfl,t,p⟩,λb d=>?_,λf g q m e=>?_⟩
  ·injection d with d;subst d;exact⟨_,_,p⟩
  ·injection e with e
   exact m (h.inj k x f g j q e)
theorem Et.step {H':aA}{F:Bool->Int->List Int}(h:Et H0 F c dm H){k:Bool}{x y:Int}{B:D}{t:Option Nat}
  (hg:Gl H0 3 1 ((F k x++[y]).map iD) B H' t) (hk:∀f g,F f g≠[]->¬(f=k/\g=x)->H' (c f g)=H (c f g)/\t≠some (c f g)):
  ∃E,Et H0 (BV F k x (F k x++[y])) E (BV dm k x (some B)) H':=by
 rcases hg with⟨_,_,G⟩|⟨b,o,s,K,u,J⟩
 ·simp at G
 ·refine⟨BV c k x b,λf g d=>?_,λf g d=>?_,λv z w A p q d=>?_⟩
  ·by_cases e:f=k/\g=x
   ·rw[e.1,e.2,lW] at d;simp at d
   ·rw[jO e] at d ⊢;exact h.nil f g d
  ·by_cases e:f=k/\g=x
   ·obtain⟨rfl,rfl⟩:=e
    simp only[lW];exact⟨o,by rw[K,aS],u,J⟩
   ·rw[jO e] at d
    simp only[jO e];obtain⟨L,p,q,I⟩:=h.own f g d;exact⟨L,p,q,(hk f g d e).1.trans I⟩
  ·by_cases j:v=k/\z=x <;> by_cases m:w=k/\A=x
   ·exact⟨m.1.trans j.1.symm,m.2.trans j.2.symm⟩
   ·rw[jO m] at q d
    rw[j.1,j.2,lW] at d;exact absurd (by rw[s,d]) (hk w A q m).2
   ·rw[jO j] at p d
    rw[m.1,m.2,lW] at d;exact absurd (by rw[s,<-d]) (hk v z p j).2
   ·rw[jO j] at p d
    rw[jO m] at q d;exact h.inj v z w A p q d
def uG (l:List (Int×Int)):Bool->Int->List Int:=λk x=>if k=true then fA l x else cT l x
theorem Mc (l:List (Int×Int))(p:Int×Int):uG (l++[p])=BV (BV (uG l) true p.1 (uG l true p.1++[p.2])) false p.2 (uG l false p.2++[p.1]):=by
 funext k x;cases k
 ·by_cases d:x=p.2
  ·subst d;rw[lW];simp [uG,cT]
  ·rw[jO (by simp [d]),jO (by simp)]
   have:¬p.2=x:=λe=>d e.symm;simp [uG,cT,this]
 ·rw[jO (by simp)]
  by_cases d:x=p.1
  ·subst d;rw[lW];simp [uG,fA]
  ·rw[jO (by simp [d])]
   have:¬p.1=x:=λe=>d e.symm;simp [uG,fA,this]
theorem RG (l:List (Int×Int))(k:Bool)(x:Int):(uG l k x).length<=l.length:=by cases k <;> simp only[uG,ia,dY,dN,fA,cT,aS] <;> exact kU _ _
theorem Il:∀{l:List (Int×Int)}{n:Int}{q:Option (Int×Int)},ry n q l=0->∀p∈l,bN n p.1/\bN n p.2
 |[],n,q,_,p,hp=>by cases hp
 |r::l,n,q,h,p,hp=>by
  simp only[ry] at h;split at h
  ·cases h
  ·split at h
   ·cases h
   ·split at h
    ·rcases bV.1 hp with rfl|hp
     ·unfold bN;omega
     ·exact Il h p hp
    ·cases h
theorem wo (h:fc l n=0):l.length<=65535/\∀p∈l,bN n p.1/\bN n p.2:=by
 unfold fc at h;split at h
 ·cases h
 ·exact⟨by omega,Il h⟩
def NwI (l:List (Int×Int)) (n:Int) (d e:Nat) (H:aA) (i:Nat) (s:St):Prop:=
 s.df=[]/\s.fr 7=fJ n d e/\s.fr 21=.seq 2 (l.map pD)/\s.fr 22=i64 l.length/\s.fr 23=i64 i/\H.le s.H/\∃f g c dm,s.H d=some (.map f)/\s.H e=some (.map g)/\fZ f (dm true)/\fZ g (dm false)/\Et H (uG (l.take i)) c dm s.H
def aC1 (l:List (Int×Int)) (n:Int) (H:aA) (d:D) (H':aA):Prop:=∃e f g h c dm,d=.eO [fJ n e f,i64 0]/\H e=none/\H f=none/\e≠f/\H.le H'/\H' e=some (.map g)/\H' f=some (.map h)/\fZ g (dm true)/\fZ h (dm false)/\Et H (uG l) c dm H'
theorem TB (l:List (Int×Int))(n:Int)(H:aA)(hn:n<=9223372036854775807)(hc:fc l n=0):aN prog 141 [.seq 2 (l.map pD),i64 n] H (aC1 l n H):=by
 have b6:=lm pD l;obtain⟨hl,bf⟩:=wo hc;refine dO func141 ntmps141 results141 λw0 g0 Q aB=>?_;refine t0 ?_;intro U Y O C;refine(GH l n _ (by omega)).q ?_;rw[hc];refine t0 ?_;intro U Y O C;intro A ab v b0 bR be;refine Y _ ?_;refine cm 7 be ?_;have Z:A≠v:=lj (aK _ _ _) b0;have a8:H v=none:=(bF.1 b0).2;refine tn b6 ?_;refine aO l.length (NwI l n A v H) ⟨rfl,rfl,rfl,rfl,rfl,aQ (aQ (aF _) ab) a8,[],[],λ_ _=>0,λ_ _=>none,(aJ Z).trans (aK _ _ _),aK _ _ _,fZ.nil,fZ.nil,⟨λ_ _ _=>rfl,λk x h=>absurd (by cases k <;> simp [uG,fA,cT]) h,λk x _ _ h _ _=>absurd (by cases k <;> simp [uG,fA,cT]) h⟩⟩ ?_;rintro i s hi ⟨ac,f7,a9,V,W,aM,m1,m2,c,dm,J,ad,rV,b5,hF⟩;have hx:=aX i;have ba:=aZ i;by_cases B:i<l.length
 case neg=>
  have q1:=lF i l.length;refine ur aB (cA f7 V W q1) ac ?_;rw[bK (by omega)] at hF;exact⟨_,aF _,A,v,m1,m2,c,dm,rfl,ab,a8,Z,aM,J,ad,rV,b5,hF⟩
 have q1:=lT i l.length;have b4:=il B;have w3:=wS i;obtain⟨p,a3⟩:=oX l[i];rw[<-a3] at b4;have N:=Mc (l.take i) p;rw[a3,<-bw B,<-a3] at N;refine tq (bG a9 V W q1 b4 hx ba (av B b6)) ?_;intro U Y O C;intro b9 bc;refine Y _ ?_;refine cm 9 bc ?_;have b3:=RG (l.take i);have bl:(l.take i).length<=65535:=by rw[bX];omega
 have bi:=bf p (a3▸ao B);have R:(-9223372036854775808<=p.1/\p.1<=9223372036854775807)/\(-9223372036854775808<=p.2/\p.2<=9223372036854775807):=by unfold bN at bi;omega
 refine Ic (λM=>M.df=[]/\M.fr 7=fJ n A v/\M.fr 9=.rp [i64 p.1,i64 p.2]/\M.fr 21=.seq 2 (l.map pD)/\M.fr 22=i64 l.length/\M.fr 23=i64 i/\H.le M.H/\∃m1 m2 c dm,M.H A=some (.map m1)/\M.H v=some (.map m2)/\fZ m1 (dm true)/\fZ m2 (dm false)/\Et H (BV (uG (l.take i)) true p.1 (uG (l.take i) true p.1++[p.2])) c dm M.H) ?_ ?_
 ·have S:=rV.get p.1
  have a1:=rV.ok (P:=prog) underlying3 R.1;have bk:=b3 true p.1;obtain⟨ob,hg,F,a7⟩:=hF.gl true p.1;have a5:ob≠some A:=λe=>by obtain⟨o,G,w⟩:=F A e;rw[J] at w;cases w
  have a4:ob≠some v:=λe=>by obtain⟨o,G,w⟩:=F v e;rw[ad] at w;cases w
  have fin:∀d j g,Gl H 3 1 ((uG (l.take i) true p.1).map iD++[iD p.2]) d j g->H.le j->(∀b z,s.H b=some z->ob≠some b->j b=some z/\g≠some b)->
    j A=some (.map m1)/\H.le (j.aU A (.map (eJ m1 (.int .i64 p.1) d)))/\∃K L c dm,(j.aU A (.map (eJ m1 (.int .i64 p.1) d))) A=some (.map K)/\(j.aU A (.map (eJ m1 (.int .i64 p.1) d))) v=some (.map L)/\fZ K (dm true)/\fZ L (dm false)/\Et H (BV (uG (l.take i)) true p.1 (uG (l.take i) true p.1++[p.2])) c dm (j.aU A (.map (eJ m1 (.int .i64 p.1) d))):=λd j g m u f=>by
   have D:=(f _ _ J a5).1;have E:=(f _ _ ad a4).1;rw[show[iD p.2]=[p.2].map iD from rfl,<-bI] at m;obtain⟨c',a0⟩:=hF.step m λk' x' w ae=>by
    obtain⟨o,h1,h2,h3⟩:=hF.own k' x' w;have:=f _ _ h3 (a7 k' x' w ae);exact⟨this.1.trans h3.symm,this.2⟩
   refine⟨D,aQ u ab,_,m2,c',BV dm true p.1 (some d),aK _ _ _,(aJ Z.symm).trans E,(rV.set R.1 d).congr λx=>by simp [BV],b5.congr λx=>by simp [BV],a0.cM λb z hz ⟨o,G,ag⟩=>?_⟩;rw[aJ λe=>by rw[e,D,ag] at hz;cases hz];exact hz
  cases I:dm true p.1 with
  |none=>
   rw[I] at S hg
   refine wE (λt=>t==some 30||t==some 31||t==some 32||t==some 36||t==some 37||t==some 38||t==some 40||t==some 41) (λ_=>false) (λ_ _ _ _=>False) (λ_ _ _ _ _=>False) λU Y=>?_;have fs:=And.intro f7 (And.intro @fJ.eq_1 (And.intro J S));refine uj ?_;refine nx ?_;(try clear fs)
   refine⟨a1,?_⟩
   refine ax (e:=3) fk rfl fk rfl yv rfl (by decide) aM hg (new:=[iD p.2]) (by exact⟨rfl,rfl⟩) (by rw[aS];show(_+1) * 8<=_;omega) λd j g m u f=>?_
   obtain⟨D,E,e3⟩:=fin d j g m u f
   simp only[D]
   exact⟨a1,Y _ ⟨ac,f7,rfl,a9,V,W,E,e3⟩⟩
  |some dv=>
   rw[I] at S hg
   refine wE (λt=>t==some 30||t==some 31||t==some 32||t==some 36||t==some 37||t==some 38||t==some 40||t==some 41) (λ_=>false) (λ_ _ _ _=>False) (λ_ _ _ _ _=>False) λU Y=>?_;have fs:=And.intro f7 (And.intro @fJ.eq_1 (And.intro J S));refine uj ?_;refine nx ?_;(try clear fs)
   refine⟨a1,?_⟩
   refine ax (e:=3) fk rfl fk rfl yv rfl (by decide) aM hg (new:=[iD p.2]) (by exact⟨rfl,rfl⟩) (by rw[aS];show(_+1) * 8<=_;omega) λd j g m u f=>?_
   obtain⟨D,E,e3⟩:=fin d j g m u f
   simp only[D]
   exact⟨a1,Y _ ⟨ac,f7,rfl,a9,V,W,E,e3⟩⟩
 rintro s2 ⟨ap,g7,g9,ak,al,am,ar,M1,M2,bm,DM,aw,X,b8,aa,gF⟩;have a6:BV (uG (l.take i)) true p.1 (uG (l.take i) true p.1++[p.2]) false p.2=uG (l.take i) false p.2:=jO (by simp);rw[<-a6] at N;obtain⟨F2,bb⟩:=oX (BV (uG (l.take i)) true p.1 (uG (l.take i) true p.1++[p.2]));rw[<-bb] at gF N a6;have T:=aa.get p.2;have a2:=aa.ok (P:=prog) underlying3 R.2;have b7:=b3 false p.2;rw[<-a6] at b7;obtain⟨ob,hg,F,a7⟩:=gF.gl false p.2;have a5:ob≠some A:=λe=>by obtain⟨o,G,w⟩:=F A e;rw[aw] at w;cases w
 have a4:ob≠some v:=λe=>by obtain⟨o,G,w⟩:=F v e;rw[X] at w;cases w
 have fin:∀d j g,Gl H 3 1 ((F2 false p.2).map iD++[iD p.1]) d j g->H.le j->(∀b z,s2.H b=some z->ob≠some b->j b=some z/\g≠some b)->
   j v=some (.map M2)/\H.le (j.aU v (.map (eJ M2 (.int .i64 p.2) d)))/\∃K L c dm,(j.aU v (.map (eJ M2 (.int .i64 p.2) d))) A=some (.map K)/\(j.aU v (.map (eJ M2 (.int .i64 p.2) d))) v=some (.map L)/\fZ K (dm true)/\fZ L (dm false)/\Et H (uG (l.take (i+1))) c dm (j.aU v (.map (eJ M2 (.int .i64 p.2) d))):=λd j g m u f=>by
  have D:=(f _ _ aw a5).1;have E:=(f _ _ X a4).1;rw[show[iD p.1]=[p.1].map iD from rfl,<-bI] at m;obtain⟨c',a0⟩:=gF.step m λk' x' w ae=>by
   obtain⟨o,h1,h2,h3⟩:=gF.own k' x' w;have:=f _ _ h3 (a7 k' x' w ae);exact⟨this.1.trans h3.symm,this.2⟩
  rw[<-N] at a0;refine⟨E,aQ u a8,M1,_,c',BV DM false p.2 (some d),(aJ Z).trans D,aK _ _ _,b8.congr λx=>by simp [BV],(aa.set R.2 d).congr λx=>by simp [BV],a0.cM λb z hz ⟨o,G,ag⟩=>?_⟩;rw[aJ λe=>by rw[e,E,ag] at hz;cases hz];exact hz
 cases I:DM false p.2 with
 |none=>
  rw[I] at T hg
  refine wE (λt=>t==some 47||t==some 48||t==some 49||t==some 53||t==some 54||t==some 55||t==some 57||t==some 58) (λ_=>false) (λ_ _ _ _=>False) (λ_ _ _ _ _=>False) λU Y=>?_;have fs:=And.intro g7 (And.intro g9 (And.intro @fJ.eq_1 (And.intro X T)));refine uj ?_;refine nx ?_;(try clear fs)
  refine⟨a2,?_⟩
  refine ax (e:=3) fk rfl fk rfl yv rfl (by decide) ar hg (new:=[iD p.1]) (by exact⟨rfl,rfl⟩) (by rw[aS];show(_+1) * 8<=_;omega) λd j g m u f=>?_
  obtain⟨D,E,e3⟩:=fin d j g m u f
  simp only[D]
  refine⟨a2,?_⟩
  refine tn (av am w3) ?_
  exact⟨B,ap,g7,ak,al,rfl,E,e3⟩
 |some dv=>
  rw[I] at T hg
  refine wE (λt=>t==some 47||t==some 48||t==some 49||t==some 53||t==some 54||t==some 55||t==some 57||t==some 58) (λ_=>false) (λ_ _ _ _=>False) (λ_ _ _ _ _=>False) λU Y=>?_;have fs:=And.intro g7 (And.intro g9 (And.intro @fJ.eq_1 (And.intro X T)));refine uj ?_;refine nx ?_;(try clear fs)
  refine⟨a2,?_⟩
  refine ax (e:=3) fk rfl fk rfl yv rfl (by decide) ar hg (new:=[iD p.1]) (by exact⟨rfl,rfl⟩) (by rw[aS];show(_+1) * 8<=_;omega) λd j g m u f=>?_
  obtain⟨D,E,e3⟩:=fin d j g m u f
  simp only[D]
  refine⟨a2,?_⟩
  refine tn (av am w3) ?_
  exact⟨B,ap,g7,ak,al,rfl,E,e3⟩
def AQ (F:Int->List Int):Value->D
 | .int _ x=>.seq 1 ((F x).map iD)
 |_=>.Ep
theorem Dc {F:Bool->Int->List Int}{m:List (Value×D)}(g:Et H F c dm H')(hi:fZ m (dm k))(hd:Es H0 H')(hn:∀b o els,H' b=some (.row 3 o 1 els)->H b=none->H0 b=none):
  (m.map (·.1)).Nodup->∀p∈m,uq H0 H' p.2 (AQ (F k) p.1):=λe p q=>by
 obtain⟨x,u,h⟩:=hi.keys p q;have d:=xy e q;rw[h,hi.get] at d;rw[h];by_cases j:F k x=[]
 ·rw[g.nil k x j] at d;cases d
 ·obtain⟨o,s,t,f⟩:=g.own k x j
  rw[s] at d;injection d with d
  rw[<-d];have:=Nz (k:=0) (n:=(F k x).length) hd f (hn _ _ _ f t) (by rw[aS];omega);rw[dj,bK (by rw[aS];exact bh _)] at this;exact this
theorem Dd {F:Bool->Int->List Int}{m:List (Value×D)}(e:Et H F c dm H')(hi:fZ m (dm k)):fZ (m.map λp=>(p.1,AQ (F k) p.1)) λx=>Aa (F k x):=
 (hi.aCj (AQ (F k))).congr λx=>by
  unfold Aa;by_cases d:F k x=[]
  ·rw[e.nil k x d,aD d];rfl
  ·obtain⟨o,f,_⟩:=e.own k x d
   rw[f,aC d];rfl
theorem Up (l:List (Int×Int))(n:Int)(H:aA)(hn:n<=9223372036854775807)(hc:fc l n=0):aN prog 141 [.seq 2 (l.map pD),i64 n] H λd H'=>∃g h F G,d=.eO [fJ n g h,i64 0]/\H g=none/\H h=none/\g≠h/\H'=(H.aU g (.map F)).aU h (.map G)/\oc l g h H'/\H.le H':=
 (TB l n H hn hc).xQ λd H' ⟨g,h,F,G,c,dm,L,v,z,E,M,q,s,R,B,I⟩=>by
  obtain⟨H0,j⟩:=oX ((H.aU g (.map (F.map λp=>(p.1,AQ (uG l true) p.1)))).aU h (.map (G.map λp=>(p.1,AQ (uG l false) p.1))));have P:H0 h=some (.map (G.map λp=>(p.1,AQ (uG l false) p.1))):=by rw[j,aK]
  have N:H0 g=some (.map (F.map λp=>(p.1,AQ (uG l true) p.1))):=by rw[j,aJ E,aK]
  have K:∀b,b≠g->b≠h->H0 b=H b:=λb m t=>by rw[j,aJ t,aJ m]
  have A:Es H0 H':=λb f=>by
   rw[K b (λe=>by rw[e,q] at f;cases f) (λe=>by rw[e,s] at f;cases f)];cases T:H b with
   |none=>rfl
   |some x=>rw[M _ _ T] at f;cases f
  have D:∀b o u,H' b=some (.row 3 o 1 u)->H b=none->H0 b=none:=λb o u m t=>by
   rw[K b (λe=>by rw[e,q] at m;cases m) (λe=>by rw[e,s] at m;cases m)];exact t
  have J:H.le H0:=by rw[j];exact aQ (aQ (aF _) v) z
  refine⟨d,H0,A,λw S=>S.xQ A λb x f=>?_,AM A,g,h,_,_,L,v,z,E,j,⟨_,_,N,Dd I R,P,Dd I B⟩,J⟩;by_cases m:b=g
  ·subst m
   rw[N] at f;injection f with f
   exact .inr ⟨F,AQ (uG l true),q,f.symm,Dc I R A D⟩
  ·by_cases t:b=h
   ·subst t
    rw[P] at f;injection f with f
    exact .inr ⟨G,AQ (uG l false),s,f.symm,Dc I B A D⟩
   ·rw[K b m t] at f
    exact .inl (M _ _ f)
noncomputable def Bh (l:List (Int×Int)) (n:Int) (ts:List bp):Nat->Int->Int->Bool
 |0,_,_=>false
 |k+1,a,b=>
  decide ((bY ts a).k=(bY ts b).k)&&(decide ((bY ts a).m=(bY ts b).m)&&(decide ((bY ts a).ar.length=(bY ts b).ar.length)&&
   ((if (bY ts a).k=3 then gh l n (bY ts a).r (bY ts b).r&&(Bh l n ts k (bY ts a).e (bY ts b).e&&(!(bY ts a).m||Bh l n ts k (bY ts b).e (bY ts a).e)) else true)&&
    ((bY ts a).ar.zip (bY ts b).ar).all λp=>Bh l n ts k p.1 p.2)))
theorem tA (f:pI ts):∀(k:Nat) (a b:Int),bN ts.length a->bN ts.length b->a<k->b<k->∀e,k<=e->Bh l n ts e a b=Bh l n ts k a b
 |0,a,b,ha,_,hk,_,_,_=>by unfold bN at ha;omega
 |k+1,a,b,ha,hb,hak,hbk,0,hk'=>by omega
 |k+1,a,b,ha,hb,hak,hbk,e+1,hk'=>by
  have o:=qx f ha;have q:=qx f hb;unfold bN at ha hb;simp only[Bh];by_cases m:(bY ts a).k=(bY ts b).k
  case neg=>simp [m]
  congr 1;congr 1;congr 1;have j:(((bY ts a).ar.zip (bY ts b).ar).all λp=>Bh l n ts e p.1 p.2)=(((bY ts a).ar.zip (bY ts b).ar).all λp=>Bh l n ts k p.1 p.2):=by
   rw[Bool.eq_iff_iff,dK,dK];refine forall_congr' λp=>forall_congr' λs=>?_;have d:=List.of_mem_zip s;have g:=o.2 _ d.1;have h:=q.2 _ d.2;rw[tA f k p.1 p.2 ⟨g.1,by omega⟩ ⟨h.1,by omega⟩ (by omega) (by omega) e (by omega)]
  rw[j];congr 1;by_cases d:(bY ts a).k=3
  ·rw[aD d,aD d]
   have g:=o.1 d;have h:=q.1 (m▸d);rw[tA f k _ _ ⟨g.1,by omega⟩ ⟨h.1,by omega⟩ (by omega) (by omega) e (by omega),tA f k _ _ ⟨h.1,by omega⟩ ⟨g.1,by omega⟩ (by omega) (by omega) e (by omega)]
  ·rw[aC d,aC d]
noncomputable def ky (l:List (Int×Int)) (n:Int) (ts:List bp) (a b:Int):Bool:=Bh l n ts ts.length a b
theorem Jv {l:List (Int×Int)}{n:Int}(d:pI ts)(ha:bN ts.length a)(hb:bN ts.length b):
  ky l n ts a b=(decide ((bY ts a).k=(bY ts b).k)&&(decide ((bY ts a).m=(bY ts b).m)&&(decide ((bY ts a).ar.length=(bY ts b).ar.length)&&
   ((if (bY ts a).k=3 then gh l n (bY ts a).r (bY ts b).r&&(ky l n ts (bY ts a).e (bY ts b).e&&(!(bY ts a).m||ky l n ts (bY ts b).e (bY ts a).e)) else true)&&
    ((bY ts a).ar.zip (bY ts b).ar).all λp=>ky l n ts p.1 p.2)))):=by
 have h:=tA (l:=l) (n:=n) d ts.length a b ha hb (by unfold bN at ha;omega) (by unfold bN at hb;omega) (ts.length+1) (by omega);unfold ky;rw[<-h];simp only[Bh]
open Classical in
noncomputable def y8 (l:List (Int×Int)) (n:Int) (ts:List bp) (a b:Int):Bool:=if bN ts.length a/\bN ts.length b then ky l n ts a b else false
theorem xU (h:¬(bN ts.length a/\bN ts.length b)):y8 l n ts a b=false:=aC h
theorem BC (ha:bN ts.length a)(hb:bN ts.length b):y8 l n ts a b=ky l n ts a b:=aD ⟨ha,hb⟩
theorem MS {f:Int->Int->Bool}(h:∀j (h:j<x.length) (h':j<y.length),f x[j] y[j]=true):((x.zip y).all λp=>f p.1 p.2)=true:=by
 rw[dK];intro p e;obtain⟨j,d,rfl⟩:=kV e;rw[List.length_zip] at d;rw[List.getElem_zip];exact h j (by omega) (by omega)
theorem MR {f:Int->Int->Bool}{j:Nat}(h1:j<x.length)(h2:j<y.length)(h:f x[j] y[j]=false):((x.zip y).all λp=>f p.1 p.2)=false:=by
 rw[Bool.eq_false_iff];intro d;rw[dK] at d;have e:j<(x.zip y).length:=by rw[List.length_zip];omega
 have:=d _ (ao e);rw[List.getElem_zip,h] at this;cases this
theorem Wk (l:List (Int×Int))(n:Int)(ts:List bp)(hw:pI ts)(aw:∀p∈l,bN n p.1/\bN n p.2)(hn:n<=1000000)(hl:l.length<=1000000)(be:ts.length<=1000000)(ap:∀t∈ts,t.ar.length<=140737488351232):
  ∀(W:Nat) (a b:Int) (H:aA),a<W->b<W->aN ag 261 [.seq 2 (l.map pD),i64 n,.seq 5 (ts.map bS),i64 a,i64 b] H λd H'=>d=.val (.bool (y8 l n ts a b))/\H=H':=by
 intro W
 induction W using Nat.strongRecOn with
 |ind W ih=>
  intro a b H bb bc
  refine aq (K:=λd=>d=.val (.bool (y8 l n ts a b))) ?_
  have L:=lm bS ts
  refine dO func261 ntmps261 results261 λw0 g0 Q I=>?_
  have w:=aF H
  by_cases h1:a<0
  ·have p1:(a<0)=True:=aG h1
   have g:=xU (l:=l) (n:=n) (ts:=ts) (a:=a) (b:=b) λh=>by have:=h.1.1;omega
   refine ur I p1 trivial ?_;exact zf w (by rw[g])
  have p1:(a<0)=False:=aI h1
  by_cases h2:(ts.length:Int)<=a
  ·have p2:((ts.length:Int)<=a)=True:=aG h2
   have g:=xU (l:=l) (n:=n) (ts:=ts) (a:=a) (b:=b) λh=>by have:=h.1.2;omega
   refine ur I (bQ p1 p2 L) trivial ?_;exact zf w (by rw[g])
  have p2:((ts.length:Int)<=a)=False:=aI h2
  by_cases h3:b<0
  ·have p3:(b<0)=True:=aG h3
   have g:=xU (l:=l) (n:=n) (ts:=ts) (a:=a) (b:=b) λh=>by have:=h.2.1;omega
   refine ur I (cA p1 p2 p3 L) trivial ?_;exact zf w (by rw[g])
  have p3:(b<0)=False:=aI h3
  by_cases h4:(ts.length:Int)<=b
  ·have p4:((ts.length:Int)<=b)=True:=aG h4
   have g:=xU (l:=l) (n:=n) (ts:=ts) (a:=a) (b:=b) λh=>by have:=h.2.2;omega
   refine ur I (cw p1 p2 p3 p4 L) trivial ?_;exact zf w (by rw[g])
  have p4:((ts.length:Int)<=b)=False:=aI h4
  have ha:bN ts.length a:=⟨by omega,by omega⟩
  have hb:bN ts.length b:=⟨by omega,by omega⟩
  have e:=(BC (l:=l) (n:=n) ha hb).trans (Jv hw ha hb)
  have S:=gY ha
  have T:=gY hb
  have wa:=qx hw ha
  have wb:=qx hw hb
  have a3:(bY ts a).ar.length<=140737488351232:=by obtain⟨h',he⟩:=qM ha;rw[he];exact ap _ (ao h')
  obtain⟨t,ht⟩:=oX (bY ts a)
  obtain⟨u,hu⟩:=oX (bY ts b)
  rw[<-ht] at S e wa a3
  rw[<-hu] at T e wb
  obtain⟨tk,tm,tr,te,z⟩:=t
  obtain⟨uk,um,ur,ue,G⟩:=u
  simp only[bS] at S T e wa wb a3
  have a8:0<=a:=ha.1
  have a9:0<=b:=hb.1
  have aa:a.toNat<ts.length:=by omega
  have ab:b.toNat<ts.length:=by omega
  have a4:a<(ts.length:Int):=by omega
  have a6:b<(ts.length:Int):=by omega
  refine tq (bG p1 p2 p3 p4 L S T (eP a8 a9 aa ab a4 a6)) ?_;intro U Y O C
  intro b9 am
  refine Y _ ?_
  refine cm 11 am ?_
  refine tq (bG L S T a8 a9 aa ab (av a4 a6)) ?_;intro U Y O C
  intro ba al
  refine Y _ ?_
  refine cm 12 al ?_
  have F:=lm iD z
  have V:=lm iD G
  by_cases g1:tk=uk
  case neg=>
   have q1:(tk=uk)=False:=aI g1;have g:y8 l n ts a b=false:=by rw[e];simp [g1]
   refine ur I q1 trivial ?_;exact zf w (by rw[g])
  have q1:(tk=uk)=True:=aG g1
  by_cases g2:tm=um
  case neg=>
   have q2:(tm=um)=False:=aI g2;have g:y8 l n ts a b=false:=by rw[e];simp [g2]
   refine ur I (av q1 q2) trivial ?_;exact zf w (by rw[g])
  have q2:(tm=um)=True:=aG g2
  by_cases g3:z.length=G.length
  case neg=>
   have q3:=nF ((z.length:Int)=(G.length:Int));have g:y8 l n ts a b=false:=by rw[e];simp [g3]
   refine ur I (cw q1 q2 q3 F V) trivial ?_;exact zf w (by rw[g])
  have q3:=nT ((z.length:Int)=(G.length:Int))
  rw[ah g1,ah g2,ah g3,cV,cV,cV] at e
  refine tn (cw q1 q2 q3 F V) ?_
  refine aO z.length (λi s=>s.df=[]/\s.fr 0=.seq 2 (l.map pD)/\s.fr 1=i64 n/\s.fr 2=.seq 5 (ts.map bS)/\s.fr 11=.rp [i64 tk,.val (.bool tm),i64 tr,i64 te,.seq 1 (z.map iD)]/\s.fr 12=.rp [i64 uk,.val (.bool um),i64 ur,i64 ue,.seq 1 (G.map iD)]/\s.fr 13=i64 i/\s.H=H/\∀j (h:j<z.length) (h':j<G.length),j<i->ky l n ts z[j] G[j]=true) ⟨rfl,rfl,rfl,rfl,rfl,rfl,rfl,rfl,by simp⟩ ?_
  rintro i s hi ⟨E,N,P,R,m,v,o,hH,a2⟩
  have hx:=aX i
  have a7:=aZ i
  by_cases J:i<z.length
  case pos=>
   have q4:=lT i z.length;have M:i<G.length:=by omega
   have X:=bT J;have Z:=bT M;have w3:=wS i;have b4:=wa.2 z[i] (ao J);have b5:=wb.2 G[i] (ao M);have b3:=BC (l:=l) (n:=n) (ts:=ts) (a:=z[i]) (b:=G[i]) ⟨b4.1,by omega⟩ ⟨b5.1,by omega⟩;have D:cP ag 261 [.seq 2 (l.map pD),i64 n,.seq 5 (ts.map bS),i64 z[i],i64 G[i]] H λd A=>A=aA.none/\d=.val (.bool (y8 l n ts z[i] G[i])):=
    an λak b8=>ih (W - 1) (by omega) z[i] G[i] ak (by omega) (by omega)
   rw[b3] at D;refine tq (cA m o F q4) ?_;intro U Y O C;obtain⟨x,a0⟩:=oX z[i];obtain⟨y,a1⟩:=oX G[i];rw[<-a0] at X D;rw[<-a1] at Z D;cases hv:ky l n ts x y with
   |false=>
    rw[hv] at D
    refine dE (λ_ _ d A=>A=.none/\d=.val (.bool false)) λU Y=>?_;refine dst (bG N P R m v o F (bG V X Z hx a7 J M hH)) ?_;intro U Y O C
    refine⟨D,Y _ ?_⟩
    refine ur I trivial E ?_
    have b6:=MR (f:=ky l n ts) J M (by rw[<-a0,<-a1];exact hv)
    exact zf w (by rw[e,b6,fq])
   |true=>
    rw[hv] at D
    refine dE (λ_ _ d A=>A=.none/\d=.val (.bool true)) λU Y=>?_;refine dst (bG N P R m v o F (bG V X Z hx a7 J M hH)) ?_;intro U Y O C
    refine⟨D,Y _ ?_⟩
    refine tq (av o w3) ?_;intro U Y O C
    refine⟨J,E,N,P,R,m,v,rfl,rfl,λj h h' hj=>?_⟩
    by_cases b0:j=i
    ·subst b0;rw[<-a0,<-a1];exact hv
    ·exact a2 j h h' (by omega)
  case neg=>
   have q4:=lF i z.length;have b7:=MS (f:=ky l n ts) (x:=z) (y:=G) λj h h'=>a2 j h h' (by omega);rw[b7,fu] at e;have B:H.le s.H:=by rw[hH];exact w
   by_cases h5:tk=3
   case neg=>
    have q5:(tk=3)=False:=aI h5;rw[aC h5] at e;refine ur I (cw m o F q4 q5) E ?_;exact zf B (by rw[e])
   have q5:(tk=3)=True:=aG h5;rw[aD h5] at e;have ac:=wa.1 h5;have ad:=wb.1 (g1▸h5);have b1:=BC (l:=l) (n:=n) (ts:=ts) (a:=te) (b:=ue) ⟨ac.1,by omega⟩ ⟨ad.1,by omega⟩;have b2:=BC (l:=l) (n:=n) (ts:=ts) (a:=ue) (b:=te) ⟨ad.1,by omega⟩ ⟨ac.1,by omega⟩;refine tq (bG N P R m v o F (av q4 q5)) ?_;intro U Y O C;refine(JT l n tr ur _ aw hn hl).q ?_;cases ho:gh l n tr ur with
   |false=>
    rw[ho,dq] at e
    refine ur I (eP N P R m v o) E ?_
    exact zf B (by rw[e])
   |true=>
    rw[ho,cV] at e
    refine tq (eP N P R m v o) ?_;intro U Y O C
    refine(ih (W - 1) (by omega) te ue _ (by omega) (by omega)).q ?_
    rw[b1]
    cases ae:ky l n ts te ue with
    |false=>
     rw[ae,dq] at e
     refine ur I (eP N P R m v o) E ?_
     exact zf B (by rw[e])
    |true=>
     rw[ae,cV] at e
     by_cases tY:tm=true
     case neg=>
      have a5:tm=false:=by simpa using tY
      rw[a5] at e;refine ur I (ej N P R m v o a5) E ?_;exact⟨_,aF _,B,_,aL B,by rw[e] <;> rfl⟩
     rw[tY] at e
     refine tq (ej N P R m v o tY) ?_;intro U Y O C
     refine(ih (W - 1) (by omega) ue te _ (by omega) (by omega)).q ?_
     rw[b2]
     refine ur I (ej N P R m v o tY) E ?_
     exact⟨_,aF _,B,_,aL B,by rw[e] <;> rfl⟩
def mD (t:bp):List Int:=if t.k=3 then [t.e] else t.ar
def TP (t:bp):List Int:=t.ar
inductive BZ (par:bp->List Int) (ts:List bp):Int->Int->Prop
 |refl (a:Int):BZ par ts a a
 |step {a p b:Int}(h:p∈par (bY ts a)) (h2:BZ par ts p b):BZ par ts a b
theorem BZ.iff:BZ par ts a b↔a=b\/∃p∈par (bY ts a),BZ par ts p b:=by
 constructor
 ·intro h
  cases h with
  |refl=>exact .inl rfl
  |step h d=>exact .inr ⟨_,h,d⟩
 ·rintro(rfl|⟨p,e,h⟩)
  ·exact .refl _
  ·exact .step e h
theorem BZ.trans {c:Int}(h:BZ par ts a b):BZ par ts b c->BZ par ts a c:=by
 induction h with
 |refl=>exact id
 |step h _ e=>exact λd=>.step h (e d)
def Dn (par:bp->List Int) (ts:List bp):Prop:=∀a,bN ts.length a->∀p∈par (bY ts a),0<=p/\p<a
theorem Dn.A (g:pI ts):Dn mD ts:=λa f p d=>by
 have:=qx g f;unfold mD at d;split at d
 ·rename_i e
  rw[bM] at d;rw[d];exact this.1 e
 ·exact this.2 p d
theorem Dn.F (f:pI ts):Dn TP ts:=λa d p e=>(qx f d).2 p e
theorem BZ.le (hd:Dn par ts)(h:BZ par ts a b):bN ts.length a->0<=b/\b<=a:=by
 induction h with
 |refl=>exact λd=>⟨d.1,kJ _⟩
 |step g _ j=>
  intro d
  have e:=hd _ d _ g
  have f:=j ⟨e.1,Int.lt_trans e.2 d.2⟩
  exact⟨f.1,by omega⟩
def Qv (ts:List bp) (i r:Int):Prop:=bN ts.length i/\∃b,BZ mD ts i b/\(bY ts b).k=3/\(bY ts b).r=r
open Classical in
noncomputable def Ja (ts:List bp) (i r:Int):Bool:=decide (Qv ts i r)
theorem Su:Ja ts i r=true↔Qv ts i r:=by simp [Ja]
noncomputable def xR (ts:List bp) (i:Int):List Int:=((List.range 1000000).map Int.ofNat).filter λr=>Ja ts i r
theorem GJ (ts:List bp)(i:Int):(xR ts i).Pairwise (·<·):=by
 refine List.Pairwise.filter _ ?_;rw[rE];exact tI.imp λh=>by show(_:Int)<_;simp only[Int.ofNat_eq_natCast];omega
theorem Al:r∈xR ts i↔bN 1000000 r/\Qv ts i r:=by
 unfold xR;rw[fN,cD,Su];constructor
 ·rintro⟨⟨k,f,rfl⟩,h⟩
  rw[ib] at f;exact⟨⟨aZ _,by simp only[Int.ofNat_eq_natCast];omega⟩,h⟩
 ·rintro⟨d,e⟩
  unfold bN at d;exact⟨⟨r.toNat,by rw[ib];omega,by simp only[Int.ofNat_eq_natCast];omega⟩,e⟩
def Qk (ts:List bp) (i:Int):Prop:=bN ts.length i/\∀b,BZ TP ts i b->¬((bY ts b).k=3/\(bY ts b).m=true)
open Classical in
noncomputable def jD (ts:List bp) (i:Int):Bool:=decide (Qk ts i)
theorem sC:jD ts i=true↔Qk ts i:=by simp [jD]
theorem pV:jD ts i=false↔¬Qk ts i:=by simp [jD]
theorem Ip (o:pI ts)(hi:bN ts.length i):Qk ts i↔¬((bY ts i).k=3/\(bY ts i).m=true)/\∀p∈(bY ts i).ar,Qk ts p:=by
 have j:=Dn.F o;constructor
 ·rintro⟨_,h⟩
  refine⟨h i (.refl _),λp d=>?_⟩;have:=j i hi p d;exact⟨⟨this.1,Int.lt_trans this.2 hi.2⟩,λb e=>h b (.step d e)⟩
 ·rintro⟨f,g⟩
  refine⟨hi,λb e=>?_⟩;rcases BZ.iff.1 e with rfl|⟨p,d,h⟩
  ·exact f
  ·exact(g p d).2 b h
def dU (p:gR):Bool:=decide (p.lo=0)&&decide (p.pr.length=0)
def mB (b:bn) (p:gR):Int×Int:=bJ b.ty b.lc p
noncomputable def kx (b:bn) (o:gq):Int:=
 if o.k<0\/4<o.k then 14
 else if (o.n≠0/\o.k≠2/\o.k≠3)\/(1<o.k/\dU o.pl=false) then 2
 else if o.k=3/\o.n≠0/\o.n≠1 then 3
 else if 1<o.k then 0
 else if (mB b o.pl).2≠0 then (mB b o.pl).2
 else if (o.k=0/\jD b.ty (mB b o.pl).1=false)\/(o.k=1/\pC o.pl 0=true) then 22 else 0
def tc (b:bn) (o:gq):Int:=if o.k=2 then 2 else if o.k=3 then 1 else if o.k=4 then 0 else (bY b.ty (mB b o.pl).1).k
noncomputable def nW (b:bn) (o:gq) (t:Int):Bool:=if 1<o.k then decide (tc b o=(bY b.ty t).k) else y8 b.ol b.rg.length b.ty (mB b o.pl).1 t
noncomputable def eM (b:bn):List gq->List Int->Int
 |[],_=>0
 |o::l,fs=>if kx b o≠0 then kx b o else match fs with
  |[]=>eM b l []
  |f::fs=>if nW b o f=false then 22 else eM b l fs
def VF (op:Int):Int×Int:=if op=0 then (2,2) else (1,1)
def HA (op:Int):Int×Int:=if op=5 then (1,1) else if 3<=op then (2,1) else (2,2)
noncomputable def oj (b:bn) (r:tx) (t:Int) (n:Int) (x:Int×Int):Int:=
 if r.op<0\/n<=r.op then 14
 else if eM b r.ar []≠0 then eM b r.ar []
 else if (r.ar.all λo=>decide (tc b o=x.1))=false then 22
 else if (bY b.ty t).k≠x.2 then 22 else 0
noncomputable def vE (b:bn) (r:tx) (t:Int):Int:=
 if (mB b r.pl).2≠0 then (mB b r.pl).2
 else if r.rg<0\/(b.rg.length:Int)<=r.rg then 3
 else if (bY b.ty t).k≠3\/(bY b.ty t).r≠r.rg\/(bY b.ty t).m≠r.mu\/(bY b.ty t).e≠(mB b r.pl).1\/(r.mu=true/\ml b.ty b.lc r.pl=false) then 22
 else if ((tj b.ty b.lc r.pl).all λq=>gh b.ol b.rg.length q r.rg)=false then 22 else 0
def tv (r:tx):Bool:=
 if r.k=1 then decide (r.op=0)&&decide (r.ar.length=0)
 else (decide (r.rg=0)&& !r.mu&&dU r.pl)&&(if r.k=0 then decide (r.op=0)&&decide (r.ar.length=1) else if r.k=2 then decide (r.ar.length=1) else if r.k=3 then decide (r.ar.length=2) else decide (r.op=0))
noncomputable def Cd (b:bn) (r:tx) (t:Int):Int:=
 if r.k<0\/4<r.k then 14
 else if tv r=false then 2
 else if r.k=0 then eM b r.ar [t]
 else if r.k=1 then vE b r t
 else if r.k=2 then oj b r t 2 (VF r.op)
 else if r.k=3 then oj b r t 6 (HA r.op)
 else if (bY b.ty t).k≠4\/(bY b.ty t).ar.length≠r.ar.length then 22 else eM b r.ar (bY b.ty t).ar
def qy (b:bn) (p:gR):Int:=if (mB b p).2≠0 then (mB b p).2 else if ml b.ty b.lc p=false then 22 else 0
def FB (s:qO):Bool:=dU s.pl&&(decide (s.rv.k=0)&&decide (s.rv.op=0)&&decide (s.rv.ar.length=0)&&decide (s.rv.rg=0)&& !s.rv.mu&&dU s.rv.pl)
noncomputable def yY (b:bn) (s:qO):Int:=
 if s.k=0 then (if s.lo≠0 then 2 else if qy b s.pl≠0 then qy b s.pl else Cd b s.rv (mB b s.pl).1)
 else if s.k=1 then (if FB s=false then 2 else if s.lo<0\/(b.lc.length:Int)<=s.lo then 3 else 0)
 else if s.k=2 then (if FB s=false\/s.lo≠0 then 2 else 0)
 else 14
def nX (t:ra):Bool:=
 if t.k=0 then (decide (t.tg.length=1)&&decide (t.ar.length=0))&&dU t.pl&&decide (t.nm=ByteArray.empty)
 else if t.k=1 then (decide (t.tg.length=2)&&decide (t.ar.length=1))&&dU t.pl&&decide (t.nm=ByteArray.empty)
 else if t.k=3 then decide (t.tg.length=1)
 else if t.k=4 then (decide (t.tg.length=1)&&decide (t.ar.length=0))&&decide (t.nm=ByteArray.empty)
 else (decide (t.tg.length=0)&&decide (t.ar.length=0))&&dU t.pl&&decide (t.nm=ByteArray.empty)
def BS (t:ra):gq:=t.ar.getD 0 ⟨0,⟨0,[]⟩,0⟩
noncomputable def tw (b:bn) (t:ra):Int:=
 if t.k<0\/5<t.k then 14
 else if nX t=false then 2
 else if (t.tg.all λx=>decide (bN b.bl.length x))=false then 3
 else if t.k=1 then (if kx b (BS t)≠0 then kx b (BS t) else if tc b (BS t)≠1 then 22 else 0)
 else if t.k=3 then (if eY t.nm=false then 12 else if 65535<t.ar.length then 15 else if eM b t.ar []≠0 then eM b t.ar [] else qy b t.pl)
 else if t.k=4 then (if (mB b t.pl).2≠0 then (mB b t.pl).2 else if pC t.pl 0=true then 22 else 0)
 else 0
def rY (seen:List ByteArray):List ByteArray->Int
 |[]=>0
 |s::l=>if eY s=false then 12 else if rQ seen s<seen.length then 21 else rY (seen++[s]) l
def kP (l:List ByteArray):Int:=if 65535<l.length then 15 else rY [] l
def oV (n:Nat) (seen:List ByteArray):List mQ->Int
 |[]=>0
 |x::l=>if eY x.nm=false then 12 else if rQ seen x.nm<seen.length then 21 else if ¬bN n x.ty then 3 else oV n (seen++[x.nm]) l
def th (b:bn):Int:=if 65535<b.lc.length then 15 else if oV b.ty.length [] b.lc≠0 then oV b.ty.length [] b.lc else if b.ag<0\/(b.lc.length:Int)<b.ag then 3 else 0
noncomputable def nC (b:bn):Int:=
 if eY b.nm=false then 12
 else if kP b.rg≠0 then kP b.rg
 else if fc b.ol b.rg.length≠0 then fc b.ol b.rg.length
 else if rT b.ty b.rg.length≠0 then rT b.ty b.rg.length
 else if th b≠0 then th b
 else if b.bl.length=0\/65535<b.bl.length then 15 else 0
noncomputable def rZ (b:bn):List qO->Int
 |[]=>0
 |s::l=>if yY b s≠0 then yY b s else rZ b l
noncomputable def rn (b:bn):List im->Int
 |[]=>0
 |x::l=>if 65535<x.st.length then 15 else if rZ b x.st≠0 then rZ b x.st else if tw b x.tm≠0 then tw b x.tm else rn b l
noncomputable def oM (b:bn):Int:=if nC b≠0 then nC b else rn b b.bl
structure aD4 (b:bn):Prop where
 wt:pI b.ty
 wl:Gi b.ty b.lc
 ol:∀p∈b.ol,bN b.rg.length p.1/\bN b.rg.length p.2
 cr:fc b.ol b.rg.length=0
theorem Oc:∀{l:List mQ}{seen:List ByteArray},oV ts.length seen l=0->Gi ts l
 |[],_,_=>λx h=>by cases h
 |y::l,seen,h=>λx hx=>by
  simp only[oV] at h;split at h
  ·cases h
  ·split at h
   ·cases h
   ·split at h
    ·cases h
    ·rename_i h3
     rcases bV.1 hx with rfl|hx
     ·exact eC h3
     ·exact Oc h x hx
end Go.Proofs.YtffgfafbffdgaaaGreatDoor
