/- Lemmas and contracts of functions, several texts in one. -/
import Derived.Test.YtffgfafbffdgaaaGreatDoorR12
set_option maxRecDepth 100000
set_option maxHeartbeats 4000000
set_option linter.all false
namespace Go.Proofs.YtffgfafbffdgaaaGreatDoor
open Go.RowKit
variable {ts:List bp}{i a n b y:Int}{x:Int×Int}{l:List (Int×Int)}{lc:List mQ}{p:gR}
def B4 (x:Int×Int):Int:=if x.1≠0/\x.1≠1 then 14 else if x.1=0/\x.2≠0 then 2 else if x.2<0 then 3 else 0
def mg:List (Int×Int)->Int
 |[]=>0
 |x::l=>if B4 x≠0 then B4 x else mg l
def gC (p:gR):Int:=if p.lo<0 then 3 else if 32<p.pr.length then 19 else mg p.pr
def gG (ts:List bp) (i:Int) (x:Int×Int):Int×Int:=
 if x.1=0/\(bY ts i).k=3 then ((bY ts i).e,0) else if x.1=1/\(bY ts i).k=4 then (if x.2<(bY ts i).ar.length then ((bY ts i).ar.getD x.2.toNat 0,0) else (0,3)) else (0,22)
def tB (ts:List bp):Int->List (Int×Int)->Int×Int
 |i,[]=>(i,0)
 |i,x::l=>if (gG ts i x).2≠0 then gG ts i x else tB ts (gG ts i x).1 l
def qg (ts:List bp):Int->List (Int×Int)->List bp
 |_,[]=>[]
 |i,x::l=>(if x.1=0 then [bY ts i] else [])++qg ts (gG ts i x).1 l
def mj (lc:List mQ) (a:Int):mQ:=lc.getD a.toNat ⟨ByteArray.empty,0⟩
def bJ (ts:List bp) (lc:List mQ) (p:gR):Int×Int:=
 if gC p≠0 then (0,gC p) else if (lc.length:Int)<=p.lo then (0,3) else tB ts (mj lc p.lo).ty p.pr
def jN (ts:List bp) (lc:List mQ) (p:gR):List bp:=if (bJ ts lc p).2≠0 then [] else qg ts (mj lc p.lo).ty p.pr
def ml (ts:List bp) (lc:List mQ) (p:gR):Bool:=decide ((bJ ts lc p).2=0)&&(jN ts lc p).all (·.m)
def tj (ts:List bp) (lc:List mQ) (p:gR):List Int:=(jN ts lc p).map (·.r)
def pC (p:gR) (k:Nat):Bool:=(p.pr.drop k).any λx=>decide (x.1=0)
def Gi (ts:List bp) (lc:List mQ):Prop:=∀x∈lc,bN ts.length x.ty
theorem TR (h:(gG ts i x).2≠0):(gG ts i x).1=0:=by
 unfold gG at h ⊢;split
 ·rename_i c;rw[aD c] at h;exact absurd rfl h
 ·rename_i c
  rw[aC c] at h;split
  ·rename_i d
   rw[aD d] at h;split
   ·rename_i e;rw[aD e] at h;exact absurd rfl h
   ·rfl
  ·rfl
theorem IC (m:pI ts)(hi:bN ts.length i)(h:(gG ts i x).2=0):bN ts.length (gG ts i x).1:=by
 have c:=qx m hi;have f:=hi;unfold bN at f ⊢;unfold gG at h ⊢;split
 ·rename_i d
  have:=c.1 d.2;simp only;omega
 ·rename_i d
  rw[aC d] at h;split
  ·rename_i e
   rw[aD e] at h;split
   ·rename_i g
    have k:∀y∈(bY ts i).ar,0<=y/\y<i:=c.2;by_cases j:x.2.toNat<(bY ts i).ar.length
    ·rw[gZ,az j]
     have:=k _ (ao j);simp only[rF];omega
    ·rw[gZ,lu (by omega)]
     simp only[Option.getD_none];omega
   ·rename_i g;rw[aC g] at h;cases h
  ·rename_i e;rw[aC e] at h;cases h
theorem Co (h:(gG ts i x).2≠0):tB ts i (x::l)=gG ts i x:=aD h
theorem vx (h:(gG ts i x).2=0):tB ts i (x::l)=tB ts (gG ts i x).1 l:=aC λk=>k h
theorem BG:∀{l:List (Int×Int)}{i:Int},(tB ts i l).2≠0->tB ts i (l++[x])=tB ts i l
 |[],i,h=>absurd rfl h
 |y::l,i,h=>by
  rw[dJ];by_cases h1:(gG ts i y).2=0
  ·rw[vx h1] at h
   rw[vx h1,vx h1];exact BG h
  ·rw[Co h1,Co h1]
theorem BH:∀{l:List (Int×Int)}{i:Int},(tB ts i l).2=0->tB ts i (l++[x])=gG ts (tB ts i l).1 x
 |[],i,h=>by
  show tB ts i [x]=gG ts i x;by_cases h1:(gG ts i x).2=0
  ·rw[vx h1]
   show((gG ts i x).1,(0:Int))=gG ts i x;rw[<-h1]
  ·rw[Co h1]
 |y::l,i,h=>by
  rw[dJ];by_cases h1:(gG ts i y).2=0
  ·rw[vx h1] at h
   rw[vx h1,vx h1];exact BH h
  ·rw[Co h1] at h
   exact absurd h h1
theorem IV (c:pI ts):∀(l:List (Int×Int)) (i:Int),bN ts.length i->(tB ts i l).2=0->bN ts.length (tB ts i l).1
 |[],i,hi,_=>hi
 |x::l,i,hi,h=>by
  simp only[tB] at h ⊢;by_cases h1:(gG ts i x).2≠0
  ·rw[aD h1] at h;exact absurd h h1
  ·rw[aC h1] at h ⊢
   exact IV c l _ (IC c hi (eC h1)) h
theorem KB:∀(l:List (Int×Int)) (i:Int),(tB ts i l).2≠0->(tB ts i l).1=0
 |[],i,h=>absurd rfl h
 |x::l,i,h=>by
  simp only[tB] at h ⊢;by_cases h1:(gG ts i x).2≠0
  ·rw[aD h1];exact TR h1
  ·rw[aC h1] at h ⊢;exact KB l _ h
theorem Fc (h:0<=a/\a<lc.length):∃h',mj lc a=lc[a.toNat]'h':=by
 refine⟨by omega,?_⟩;unfold mj;rw[gZ,az (by omega)];rfl
theorem mS (h:gC p=0):0<=p.lo/\p.pr.length<=32/\mg p.pr=0:=by
 unfold gC at h;split at h
 ·cases h
 ·split at h
  ·cases h
  ·exact⟨by omega,by omega,h⟩
theorem zm:∀{l:List (Int×Int)},mg l=0->∀x∈l,(x.1=0\/x.1=1)/\0<=x.2
 |x::l,h,y,hy=>by
  simp only[mg] at h;by_cases h1:B4 x≠0
  ·rw[aD h1] at h;exact absurd h h1
  ·rw[aC h1] at h
   rcases bV.1 hy with rfl|hy
   ·have h2:B4 y=0:=eC h1
    unfold B4 at h2;split at h2
    ·cases h2
    ·rename_i c
     split at h2
     ·cases h2
     ·split at h2
      ·cases h2
      ·omega
   ·exact zm h y hy
theorem oH (h:(bJ ts lc p).2=0):gC p=0/\(0<=p.lo/\p.lo<lc.length)/\bJ ts lc p=tB ts (mj lc p.lo).ty p.pr:=by
 unfold bJ at h ⊢;by_cases d:gC p≠0
 ·rw[aD d] at h;exact absurd h d
 ·have c:gC p=0:=eC d
  rw[aC d] at h ⊢;by_cases e:(lc.length:Int)<=p.lo
  ·rw[aD e] at h;cases h
  ·rw[aC e] at h ⊢
   exact⟨c,⟨(mS c).1,by omega⟩,rfl⟩
theorem yj (hl:Gi ts lc)(h:0<=a/\a<lc.length):bN ts.length (mj lc a).ty:=by
 obtain⟨c,e⟩:=Fc h;rw[e];exact hl _ (ao c)
theorem Cp (e:pI ts)(hl:Gi ts lc)(h:(bJ ts lc p).2=0):bN ts.length (bJ ts lc p).1:=by
 obtain⟨_,c,d⟩:=oH h;rw[d] at h ⊢;exact IV e _ _ (yj hl c) h
def mr (ts:List bp):Nat->Int×Int->List (Int×Int)->List (Nat×Int×Int)
 |k,s,[]=>[(k,s)]
 |k,s,x::l=>(k,s)::(if s.2≠0 then [] else mr ts (k+1) (gG ts s.1 x) l)
def nI (ts:List bp) (lc:List mQ) (p:gR):List (Nat×Int×Int):=
 if gC p≠0 then [(0,0,gC p)] else if (lc.length:Int)<=p.lo then [(0,0,3)] else mr ts 0 ((mj lc p.lo).ty,0) p.pr
theorem Cl (ts:List bp):∀(l:List (Int×Int)) (k:Nat) (s:Int×Int),∃j,(mr ts k s l).getLast?=some (j,if s.2≠0 then s else tB ts s.1 l)
 |[],k,s=>⟨k,by
  show some (k,s)=_;by_cases h:s.2=0
  ·rw[aC (λh'=>h' h)];show _=some (k,s.1,(0:Int));rw[<-h]
  ·rw[aD h]⟩
 |x::l,k,s=>by
  simp only[mr];by_cases h:s.2=0
  ·rw[aC (λh'=>h' h),aC (λh'=>h' h)]
   obtain⟨j,hj⟩:=Cl ts l (k+1) (gG ts s.1 x);refine⟨j,?_⟩;cases e:mr ts (k+1) (gG ts s.1 x) l with
   |nil=>rw[e] at hj;cases hj
   |cons a m=>rw[List.getLast?_cons_cons,<-e,hj];rfl
  ·rw[aD h,aD h];exact⟨k,rfl⟩
theorem Cm (ts:List bp)(lc:List mQ)(p:gR):∃j,(nI ts lc p).getLast?=some (j,bJ ts lc p):=by
 unfold nI bJ;by_cases d:gC p=0
 ·have n1:¬gC p≠0:=λh=>h d
  rw[aC n1,aC n1];by_cases c:(lc.length:Int)<=p.lo
  ·rw[aD c,aD c];exact⟨0,rfl⟩
  ·rw[aC c,aC c]
   obtain⟨j,e⟩:=Cl ts p.pr 0 ((mj lc p.lo).ty,0);exact⟨j,e⟩
 ·rw[aD d,aD d];exact⟨0,rfl⟩
theorem Jt (c:pI ts):∀(l:List (Int×Int)) (k:Nat) (s:Int×Int),(s.2=0->bN ts.length s.1)->∀x∈mr ts k s l,x.2.2=0->bN ts.length x.2.1
 |[],k,s,hs,x,hx,h0=>by
  simp only[mr,bM] at hx;subst hx;exact hs h0
 |y::l,k,s,hs,x,hx,h0=>by
  simp only[mr] at hx;rcases bV.1 hx with rfl|hx
  ·exact hs h0
  ·by_cases h:s.2=0
   ·rw[aC (λh'=>h' h)] at hx
    exact Jt c l _ _ (λh2=>IC c (hs h) h2) x hx h0
   ·rw[aD h] at hx;cases hx
theorem UE (f:pI ts)(hl:Gi ts lc){x:Nat×Int×Int}(hx:x∈nI ts lc p)(h0:x.2.2=0):bN ts.length x.2.1:=by
 unfold nI at hx;by_cases c:gC p=0
 ·rw[aC (λe=>e c)] at hx
  by_cases d:(lc.length:Int)<=p.lo
  ·rw[aD d] at hx
   rw[bM] at hx;subst hx;cases h0
  ·rw[aC d] at hx
   exact Jt f _ _ _ (λ_=>yj hl ⟨(mS c).1,by omega⟩) x hx h0
 ·rw[aD c] at hx
  rw[bM] at hx;subst hx;exact absurd h0 c
theorem GV:∀(l:List (Int×Int)) (k:Nat) (s:Int×Int),∀x∈mr ts k s l,x.2.2≠0->(if s.2≠0 then s else tB ts s.1 l)=x.2
 |[],k,s,x,hx,h0=>by
  simp only[mr,bM] at hx;subst hx;exact aD h0
 |y::l,k,s,x,hx,h0=>by
  simp only[mr] at hx;rcases bV.1 hx with rfl|hx
  ·exact aD h0
  ·by_cases h:s.2=0
   ·rw[aC (λh'=>h' h)] at hx ⊢
    exact GV l _ _ x hx h0
   ·rw[aD h] at hx;cases hx
theorem GY {x:Nat×Int×Int}(hx:x∈nI ts lc p)(h0:x.2.2≠0):(bJ ts lc p).2≠0:=by
 unfold nI at hx;unfold bJ;by_cases d:gC p=0
 ·rw[aC (λc=>c d)] at hx ⊢
  by_cases e:(lc.length:Int)<=p.lo
  ·rw[aD e];simp
  ·rw[aC e] at hx ⊢
   have:=GV _ _ _ x hx h0;rw[aC (λc=>c rfl)] at this;simp only at this;rw[this];exact h0
 ·rw[aD d];exact d
def tp (ts:List bp) (d:List (Int×Int)) (c:List (Nat×Int×Int)):List bp:=c.flatMap λx=>if x.1<d.length/\(d.getD x.1 (1,0)).1=0 then [bY ts x.2.1] else []
theorem GK {c:List (Int×Int)}:∀(l:List (Int×Int)) (k:Nat) (s:Int×Int),c.drop k=l->(∀x∈mr ts k s l,x.2.2=0)->tp ts c (mr ts k s l)=qg ts s.1 l
 |[],k,s,hd,hz=>by
  have hk:¬k<c.length:=λh=>by
   have:=ai List.length hd;rw[gd,dX] at this;omega
  simp [tp,mr,qg,hk]
 |y::l,k,s,hd,hz=>by
  have hk:k<c.length:=by
   have:=ai List.length hd;rw[gd,bx] at this;omega
  have o:c.getD k (1,0)=y:=by
   rw[cL hk] at hd;injection hd with hd _
   rw[gZ,az hk,<-hd];rfl
  have e:c.drop (k+1)=l:=by
   rw[cL hk] at hd;injection hd
  have f:s.2=0:=hz (k,s) (by simp [mr]);have j:∀x∈mr ts (k+1) (gG ts s.1 y) l,x.2.2=0:=λx m=>hz x (by
   simp only[mr];rw[aC (λd=>d f)];exact dH _ m)
  have g:=GK l (k+1) (gG ts s.1 y) e j;simp only[mr];rw[aC (λd=>d f)];unfold tp at g ⊢;rw[lz,g,qg,o];simp [hk]
theorem P9 (h:(bJ ts lc p).2=0):tp ts p.pr (nI ts lc p)=qg ts (mj lc p.lo).ty p.pr:=by
 have c:∀x∈nI ts lc p,x.2.2=0:=λx g=>eC λe=>GY g e h;obtain⟨f,j,_⟩:=oH h;unfold nI at c ⊢;rw[aC (λd=>d f),aC (by omega)] at c ⊢;exact GK _ _ _ rfl c
theorem Lr (ts:List bp)(d:List (Int×Int))(c:List (Nat×Int×Int))(x:Nat×Int×Int):tp ts d (c++[x])=tp ts d c++(if x.1<d.length/\(d.getD x.1 (1,0)).1=0 then [bY ts x.2.1] else []):=by unfold tp;rw[gb];simp
theorem GX:∀(l:List (Int×Int)) (k:Nat) (s:Int×Int),(mr ts k s l).length<=l.length+1
 |[],k,s=>by simp [mr]
 |y::l,k,s=>by
  simp only[mr];split
  ·simp
  ·have:=GX (ts:=ts) l (k+1) (gG ts s.1 y)
   simp only[bx];omega
theorem QD:(nI ts lc p).length<=33:=by
 unfold nI;by_cases c:gC p=0
 ·rw[aC (λd=>d c)]
  split
  ·simp
  ·have:=GX (ts:=ts) p.pr 0 ((mj lc p.lo).ty,0)
   have:=(mS c).2.1;omega
 ·rw[aD c];simp
def ig (S:List Int) (x:Int):Option D:=if x∈S then some (.val (.bool true)) else none
theorem uc (x:Int)(S:List Int):∀y,(if y=x then some (D.val (.bool true)) else ig S y)=ig (x::S) y:=λy=>by
 unfold ig;by_cases h:y=x
 ·subst h;simp
 ·rw[aC h]
  have:(y∈x::S)=(y∈S):=by simp [h]
  simp only[this]
theorem Cn:∀y,(none:Option D)=ig [] y:=λy=>by simp [ig]
theorem xK:∀(N:Nat) (S:List Nat),S.Nodup->(∀x∈S,x<N)->S.length<=N
 |0,S,_,h=>by
  cases S with
  |nil=>simp
  |cons x S=>exact absurd (h x (by simp)) (by omega)
 |N+1,S,hn,h=>by
  by_cases hm:N∈S
  ·have h1:=xK N (S.erase N) (hn.erase N) λx c=>by
    have d:=(hn.mem_erase_iff).1 c;have:=h x d.2;omega
   rw[List.length_erase_of_mem hm] at h1
   omega
  ·have:=xK N S hn λx c=>by
    have:=h x c;have:x≠N:=λe=>hm (e▸c);omega
   omega
theorem ju {S:List Int}(hn:S.Nodup)(h:∀x∈S,bN n x):S.length<=n.toNat:=by
 have:=xK n.toNat (S.map Int.toNat) (by
  rw[yy,rE];rw[yy] at hn;refine List.Pairwise.imp_of_mem ?_ hn;intro a b g j c e;have d:=h a g;have f:=h b j;unfold bN at d f;exact c (by omega)) (λx k=>by
   obtain⟨y,m,rfl⟩:=cD.1 k;have:=h y m;unfold bN at this;omega)
 simpa using this
open Tryz
def yR (a b:Int):Int:=if a<b then -1 else if b<a then 1 else 0
theorem Uo (a:Int)(H:aA):aN prog 315 [i64 a] H λd H'=>d=.val (.bool false)/\H=H':=by
 refine dO func315 ntmps315 results315 λf e Q c=>?_;refine sg trivial ?_;refine EX c trivial ?_;exact⟨_,aF _,by first|rfl|exact⟨rfl,rfl⟩|assumption⟩
theorem Y3 (a b:Int)(H:aA):aN prog 249 [i64 a,i64 b] H λd H'=>d=i64 (yR a b)/\H=H':=by
 refine dO func249 ntmps249 results249 λk j Q c=>?_;refine sg trivial ?_;refine(Uo a _).q ?_;refine sg trivial ?_;refine(Uo b _).q ?_;unfold yR at c;by_cases e:a<b
 ·rw[aD e] at c
  have g:(a<b)=True:=aG e;refine sg g ?_;refine EX c trivial ?_;exact⟨_,aF _,by first|rfl|exact⟨rfl,rfl⟩|assumption⟩
 have g:(a<b)=False:=aI e;rw[aC e] at c;by_cases f:b<a
 ·rw[aD f] at c
  have h:(b<a)=True:=aG f;refine sg (av g h) ?_;refine EX c trivial ?_;exact⟨_,aF _,by first|rfl|exact⟨rfl,rfl⟩|assumption⟩
 have h:(b<a)=False:=aI f;rw[aC f] at c;refine sg (av g h) ?_;refine EX c trivial ?_;exact⟨_,aF _,by first|rfl|exact⟨rfl,rfl⟩|assumption⟩
def nB:List Int->List Int->Int
 |[],[]=>0
 |[],_::_=> -1
 |_::_,[]=>1
 |x::c,y::d=>if yR x y=0 then nB c d else yR x y
def CmI (l m:List Int) (H:aA) (i:Nat) (s:St):Prop:=s.df=[]/\s.fr 0=.seq 1 (l.map iD)/\s.fr 1=.seq 1 (m.map iD)/\s.fr 9=.seq 1 (l.map iD)/\s.fr 10=i64 l.length/\s.fr 11=i64 i/\s.H=H/\i<=m.length/\nB l m=nB (l.drop i) (m.drop i)
theorem Kn (l m:List Int)(H:aA)(hl:l.length<=140737488351232)(hm:m.length<=140737488351232):aN prog 172 [.seq 1 (l.map iD),.seq 1 (m.map iD)] H λd H'=>d=i64 (nB l m)/\H=H':=by
 have j:=lm iD l;have o:=lm iD m;refine dO func172 ntmps172 results172 λR N Q D=>?_;refine sg j ?_;refine aO l.length (CmI l m H) ⟨rfl,rfl,rfl,rfl,rfl,rfl,rfl,by omega,rfl⟩ ?_;rintro i s P ⟨h,t,u,v,f,g,z,L,F⟩;have J:=aX i;have w:=aZ i;by_cases c:i<l.length
 ·have B:=lT i l.length
  have A:=bT c;have M:=wS i;by_cases e:i<m.length
  ·have r:=nF ((m.length:Int)<=(i:Int))
   have G:=bT e;have k:nB l m=if yR l[i] m[i]=0 then nB (l.drop (i+1)) (m.drop (i+1)) else yR l[i] m[i]:=by rw[F,cL c,cL e];rfl
   refine sg (bG t u v f g j o (bG B r A G J w c e)) ?_;refine(Y3 l[i] m[i] _).q ?_;by_cases E:yR l[i] m[i]=0
   ·rw[aD E] at k
    have I:(yR l[i] m[i]=0)=True:=aG E;refine sg (bQ I g M) ?_;exact⟨c,h,t,u,v,f,rfl,z,by omega,k⟩
   ·rw[aC E] at k
    have I:(yR l[i] m[i]=0)=False:=aI E;refine sg I ?_;refine EX D h ?_;exact⟨_,aF _,by rw[k],z.symm⟩
  ·have r:=nT ((m.length:Int)<=(i:Int))
   have k:nB l m=1:=by rw[F,cL c,cb (show m.length<=i by omega)];rfl
   refine sg (bG t u v f g j o (eP B r A J w c)) ?_;refine EX D h ?_;exact⟨_,aF _,by rw[k],z.symm⟩
 ·have B:=lF i l.length
  have K:i=l.length:=by omega
  by_cases e:i<m.length
  ·have r:=nT ((l.length:Int)<(m.length:Int))
   have k:nB l m= -1:=by rw[F,cb (show l.length<=i by omega),cL e];rfl
   refine sg (bG t u v f g j o (av B r)) ?_;refine EX D h ?_;exact⟨_,aF _,by rw[k],z.symm⟩
  ·have r:=nF ((l.length:Int)<(m.length:Int))
   have k:nB l m=0:=by rw[F,cb (show l.length<=i by omega),cb (show m.length<=i by omega)];rfl
   refine sg (bG t u v f g j o (av B r)) ?_;refine EX D h ?_;exact⟨_,aF _,by rw[k],z.symm⟩
theorem zq (a b c d:Int)(H:aA):aN prog 172 [.seq 1 [[.val (.int .i64 a)],[.val (.int .i64 b)]],.seq 1 [[.val (.int .i64 c)],[.val (.int .i64 d)]]] H λx H'=>x=i64 (nB [a,b] [c,d])/\H=H':=
 Kn [a,b] [c,d] H (by simp) (by simp)
def mH (q p:Int×Int):Prop:=q.1<p.1\/(q.1=p.1/\q.2<p.2)
instance (q p:Int×Int):Decidable (mH q p):=by unfold mH;exact inferInstance
theorem Im (q p:Int×Int):(0<=nB [q.1,q.2] [p.1,p.2])↔¬mH q p:=by
 unfold mH;simp only[nB,yR];split <;> split <;> (try split) <;> omega
def GD:Option (Int×Int)->Int×Int->Bool
 |none,_=>true
 |some q,p=>decide (mH q p)
def ry (n:Int):Option (Int×Int)->List (Int×Int)->Nat
 |_,[]=>0
 |q,p::l=>if p.1<0\/p.2<0\/n<=p.1\/n<=p.2 then 3 else if p.1=p.2 then 2 else if GD q p then ry n (some p) l else 21
def fc (l:List (Int×Int)) (n:Int):Nat:=if 65535<l.length then 15 else ry n none l
def qE (l:List (Int×Int)):Nat->Option (Int×Int)
 |0=>none
 |i+1=>l[i]?
theorem il {i:Nat}(h:i<l.length):(l.map pD)[i]?=some [.val (.int .i64 l[i].1),.val (.int .i64 l[i].2)]:=by rw[bg,az h];rfl
def RcI (l:List (Int×Int)) (n:Int) (H:aA) (i:Nat) (s:St):Prop:=s.df=[]/\s.fr 0=.seq 2 (l.map pD)/\s.fr 1=i64 n/\s.fr 10=.seq 2 (l.map pD)/\s.fr 11=i64 l.length/\s.fr 12=i64 i/\H.le s.H/\ry n none l=ry n (qE l i) (l.drop i)
theorem GH (l:List (Int×Int))(n:Int)(H:aA)(hl:l.length<=140737488351232):aN prog 138 [.seq 2 (l.map pD),i64 n] H λd H'=>d=i64 (fc l n)/\H=H':=by
 have m:=lm pD l;refine aq (K:=λd=>d=i64 (fc l n)) ?_;refine dO func138 ntmps138 results138 λw0 g0 Q u=>?_;by_cases hb:65535<l.length
 ·have q0:=nT ((65535:Int)<(l.length:Int))
  have T:fc l n=15:=aD hb;rw[T] at u;refine sg (av m q0) ?_;refine EX u m ?_;exact⟨_,aF _,aF _,_,aL (aF _),rfl⟩
 have q0:=nF ((65535:Int)<(l.length:Int));have T:fc l n=ry n none l:=aC hb;rw[T] at u;refine sg (av m q0) ?_;refine aO l.length (RcI l n H) ⟨rfl,rfl,rfl,rfl,rfl,rfl,aF _,rfl⟩ ?_;rintro i s hi ⟨g,B,o,q,r,f,z,c⟩;have hx:=aX i;have R:=aZ i;by_cases k:i<l.length
 case neg=>
  have q1:=lF i l.length;rw[cb (show l.length<=i by omega)] at c;refine sg (cA q r f q1) ?_;refine EX u g ?_;exact⟨_,aF _,z,_,aL z,by rw[c] <;> rfl⟩
 have q1:=lT i l.length;have V:=il k;have w3:=wS i;rw[cL k] at c;simp only[ry] at c;refine sg (bG B o q r f q1 V (cA hx R k m)) ?_;intro b S;refine cm 6 S ?_;have fin:∀(e:Nat),ry n none l=e->∃H',H'.le s.H/\H.le H'/\∃d0,uq H H' (i64 e) d0/\d0=i64 (ry n none l):=λe he=>⟨_,aF _,z,_,aL z,by rw[he]⟩;by_cases h1:min l[i].1 l[i].2<0
 ·rw[aD (by omega)] at c
  have J:(min l[i].1 l[i].2<0)=True:=aG h1;refine sg (bQ o f J) ?_;refine EX u g ?_;exact fin 3 c
 have J:(min l[i].1 l[i].2<0)=False:=aI h1;by_cases h2:n<=max l[i].1 l[i].2
 ·rw[aD (by omega)] at c
  have N:(n<=max l[i].1 l[i].2)=True:=aG h2;refine sg (cA o f J N) ?_;refine EX u g ?_;exact fin 3 c
 have N:(n<=max l[i].1 l[i].2)=False:=aI h2;rw[aC (by omega)] at c;by_cases L:l[i].1=l[i].2
 ·rw[aD L] at c
  have X:(l[i].1=l[i].2)=True:=aG L;refine sg (cw o f J N X) ?_;refine EX u g ?_;exact fin 2 c
 have X:(l[i].1=l[i].2)=False:=aI L;rw[aC L] at c;refine sg (cw o f J N X) ?_;by_cases W:i=0
 ·have P:=nF ((0:Int)<(i:Int))
  have w:qE l i=none:=by rw[W];rfl
  rw[w] at c;simp only[GD,dN] at c;refine Cz (λ_ _ _ _=>False) (by kernel_rfl) (by kernel_rfl) (by kernel_rfl) ?_;simp (maxSteps:=4000000) only[vX,vB,vT,vZ,ij,fh,Fp,yk,AX,gV,fE,fj,↓iR,yb,cU,DJ,ze,By,oi,od,pn,po,ki,j8,kh,ic,D.nilPtr,D.iM,D.iF,fH,Bj,CE,wX,gy,jw,fieldsOf,gU,B6,B7,B8,B9,sL,BT,D.cells,jx,DE,DB,pv,eK,eH,B3,BR,jd,EC,rS,Be,gP,TD.gX,TD.agg,Eo,rU,oe,FI,nZ,pY,pX,Ba,B5,mF,pZ,dR,eT,Value.oneCell',iX,iV,gp,reduceCtorEq,kY,iZ,dN,dY,↓reduceIte,Nat.reduceEqDiff,Int.reduceLE,Int.reduceLT,Int.reduceNeg,Int.reduceToNat,Nat.reduceAdd,Nat.reduceMul,Nat.reduceLeDiff,Nat.reduceMod,Nat.reduceSub,Int.reduceEq,Int.reduceNe,Int.reduceAdd,Int.reduceSub,Int.reduceMul,iW,cR,cO,cE,au,cF,fW,cp,eU,fK,fL,fQ,fR,fP,yx,mG,dh,St.out,jX,kI,jS,lG,iJ,or_true,true_or,or_false,pS,↓zi,B,o,f,i64,P];refine sg (av f w3) ?_;exact⟨k,g,B,o,q,r,rfl,z,by rw[c,qE,az k]⟩
 ·obtain⟨j,hj⟩:∃j,i=j+1:=⟨i - 1,by omega⟩
  have t:j<l.length:=by omega
  have P:=nT ((0:Int)<(i:Int));have G:=il t;have w4:IntKind.i64.wrap ((i:Int) - 1)=(j:Int):=by rw[aP (by omega)];omega
  have F:=aZ j;have I:=aX j;have E:=Im l[j] l[i];have w:qE l i=some l[j]:=by rw[hj,qE,az t]
  rw[w] at c;simp only[GD,dF] at c;by_cases M:mH l[j] l[i]
  ·rw[aD M] at c
   have Z:((0:Int)<=nB [l[j].1,l[j].2] [l[i].1,l[i].2])=False:=aI (λh=>E.1 h M);refine Cz (λ_ _ d A=>A=.none/\d=i64 (nB [l[j].1,l[j].2] [l[i].1,l[i].2])) (by kernel_rfl) (by kernel_rfl) (by kernel_rfl) ?_;simp (maxSteps:=4000000) only[vX,vB,vT,vZ,ij,fh,Fp,yk,AX,gV,fE,fj,↓iR,yb,cU,DJ,ze,By,oi,od,pn,po,ki,j8,kh,ic,D.nilPtr,D.iM,D.iF,fH,Bj,CE,wX,gy,jw,fieldsOf,gU,B6,B7,B8,B9,sL,BT,D.cells,jx,DE,DB,pv,eK,eH,B3,BR,jd,EC,rS,Be,gP,TD.gX,TD.agg,Eo,rU,oe,FI,nZ,pY,pX,Ba,B5,mF,pZ,dR,eT,Value.oneCell',iX,iV,gp,reduceCtorEq,kY,iZ,dN,dY,↓reduceIte,Nat.reduceEqDiff,Int.reduceLE,Int.reduceLT,Int.reduceNeg,Int.reduceToNat,Nat.reduceAdd,Nat.reduceMul,Nat.reduceLeDiff,Nat.reduceMod,Nat.reduceSub,Int.reduceEq,Int.reduceNe,Int.reduceAdd,Int.reduceSub,Int.reduceMul,iW,cR,cO,cE,au,cF,fW,cp,eU,fK,fL,fQ,fR,fP,yx,mG,dh,St.out,jX,kI,jS,lG,iJ,or_true,true_or,or_false,pS,↓zi,B,o,f,i64,P,Z,G,w4,F,I,t,m];refine⟨an λv _=>zq l[j].1 l[j].2 l[i].1 l[i].2 v,?_⟩;refine sg (av f w3) ?_;exact⟨k,g,B,o,q,r,rfl,z,by rw[c,qE,az k]⟩
  ·rw[aC M] at c
   have Z:((0:Int)<=nB [l[j].1,l[j].2] [l[i].1,l[i].2])=True:=aG (E.2 M);refine Cz (λ_ _ d A=>A=.none/\d=i64 (nB [l[j].1,l[j].2] [l[i].1,l[i].2])) (by kernel_rfl) (by kernel_rfl) (by kernel_rfl) ?_;simp (maxSteps:=4000000) only[vX,vB,vT,vZ,ij,fh,Fp,yk,AX,gV,fE,fj,↓iR,yb,cU,DJ,ze,By,oi,od,pn,po,ki,j8,kh,ic,D.nilPtr,D.iM,D.iF,fH,Bj,CE,wX,gy,jw,fieldsOf,gU,B6,B7,B8,B9,sL,BT,D.cells,jx,DE,DB,pv,eK,eH,B3,BR,jd,EC,rS,Be,gP,TD.gX,TD.agg,Eo,rU,oe,FI,nZ,pY,pX,Ba,B5,mF,pZ,dR,eT,Value.oneCell',iX,iV,gp,reduceCtorEq,kY,iZ,dN,dY,↓reduceIte,Nat.reduceEqDiff,Int.reduceLE,Int.reduceLT,Int.reduceNeg,Int.reduceToNat,Nat.reduceAdd,Nat.reduceMul,Nat.reduceLeDiff,Nat.reduceMod,Nat.reduceSub,Int.reduceEq,Int.reduceNe,Int.reduceAdd,Int.reduceSub,Int.reduceMul,iW,cR,cO,cE,au,cF,fW,cp,eU,fK,fL,fQ,fR,fP,yx,mG,dh,St.out,jX,kI,jS,lG,iJ,or_true,true_or,or_false,pS,↓zi,B,o,f,i64,P,Z,G,w4,F,I,t,m];refine⟨an λv _=>zq l[j].1 l[j].2 l[i].1 l[i].2 v,?_⟩;refine sg f ?_;refine EX u g ?_;exact fin 21 c
inductive Reach (l:List (Int×Int)):Int->Int->Prop
 |refl (a:Int):Reach l a a
 |step {a b c:Int}:Reach l a b->(b,c)∈l->Reach l a c
theorem Reach.trans {c:Int}(h:Reach l a b)(h':Reach l b c):Reach l a c:=by
 induction h' with
 |refl=>exact h
 |step _ d e=>exact .step e d
theorem vk {S:List Int}(ha:a∈S)(hc:∀x∈S,∀y,(x,y)∈l->y∈S)(h:Reach l a b):b∈S:=by
 induction h with
 |refl=>exact ha
 |step _ c d=>exact hc _ d _ c
open Classical in
noncomputable def gh (l:List (Int×Int)) (n a b:Int):Bool:=decide (bN n a/\bN n b/\Reach l a b)
open Classical in
theorem yq (h:bN n a/\bN n b/\Reach l a b):gh l n a b=true:=ah h
open Classical in
theorem lP (h:¬(bN n a/\bN n b/\Reach l a b)):gh l n a b=false:=af h
def fA (l:List (Int×Int)) (x:Int):List Int:=(l.filter λp=>decide (p.1=x)).map (·.2)
def cT (l:List (Int×Int)) (x:Int):List Int:=(l.filter λp=>decide (p.2=x)).map (·.1)
theorem sf {x:Int}:y∈fA l x↔(x,y)∈l:=by
 simp only[fA,cD,fN,dF];constructor
 ·rintro⟨⟨a,b⟩,⟨c,rfl⟩,rfl⟩;exact c
 ·intro h;exact⟨_,⟨h,rfl⟩,rfl⟩
theorem qC {x:Int}:y∈cT l x↔(y,x)∈l:=by
 simp only[cT,cD,fN,dF];constructor
 ·rintro⟨⟨a,b⟩,⟨c,rfl⟩,rfl⟩;exact c
 ·intro h;exact⟨_,⟨h,rfl⟩,rfl⟩
def Aa (l:List Int):Option D:=if l=[] then none else some (.seq 1 (l.map iD))
def fJ (n:Int) (c d:Nat):D:=.rp [i64 n,.val (.map (some c)),.val (.map (some d))]
def oc (l:List (Int×Int)) (e f:Nat) (H:aA):Prop:=∃c d,H e=some (.map c)/\fZ c (λx=>Aa (fA l x))/\H f=some (.map d)/\fZ d (λx=>Aa (cT l x))
theorem OG (n a:Int)(m o:Nat)(H:aA):aN prog 246 [fJ n m o,i64 a] H λd H'=>d=.val (.bool (decide (bN n a)))/\H=H':=by
 refine dO func246 ntmps246 results246 λr q Q c=>?_;by_cases f:0<=a
 ·have j:(0<=a)=True:=aG f
  by_cases g:a<n
  ·have k:(a<n)=True:=aG g
   have e:decide (bN n a)=true:=ah ⟨f,g⟩;rw[e] at c;refine tq (bQ @fJ.eq_1 j k) ?_;intro U Y O C;refine EX c @fJ.eq_1 ?_;exact⟨_,aF _,by first|rfl|exact⟨rfl,rfl⟩|assumption⟩
  ·have k:(a<n)=False:=aI g
   have e:decide (bN n a)=false:=af λh=>g h.2;rw[e] at c;refine tq (bQ @fJ.eq_1 j k) ?_;intro U Y O C;refine EX c @fJ.eq_1 ?_;exact⟨_,aF _,by first|rfl|exact⟨rfl,rfl⟩|assumption⟩
 ·have j:(0<=a)=False:=aI f
  have e:decide (bN n a)=false:=af λh=>f h.1;rw[e] at c;refine tq (av @fJ.eq_1 j) ?_;intro U Y O C;refine EX c @fJ.eq_1 ?_;exact⟨_,aF _,by first|rfl|exact⟨rfl,rfl⟩|assumption⟩
structure RJ (l:List (Int×Int)) (n a:Int) (z:Option Int) (S q:List Int):Prop where
 nd:S.Nodup
 inr:∀x∈S,bN n x/\Reach l a x
 st:a∈S
 qs:∀x∈q,x∈S
 cl:∀x∈S,x∉q->some x≠z->∀y,(x,y)∈l->y∈S
def OI (l:List (Int×Int)) (n a b:Int) (e f c:Nat) (H:aA) (k:Nat) (s:St):Prop:=
 s.df=[]/\s.fr 0=fJ n e f/\s.fr 2=i64 b/\s.fr 7=.val (.map (some c))/\H.le s.H/\k<=2 * n.toNat/\∃M S q d,s.H c=some (.map M)/\fZ M (ig S)/\Gk H 3 1 (q.map iD) (s.fr 8) s.H d/\d≠some c/\RJ l n a none S q/\2 * (n.toNat - S.length)+q.length<=k
theorem PR (l:List (Int×Int))(n a b:Int)(b1 b2:Nat)(H:aA)(hR:oc l b1 b2 H)(d2:∀p∈l,bN n p.1/\bN n p.2)(hn:n<=1000000)(hl:l.length<=1000000):aN prog 285 [fJ n b1 b2,i64 a,i64 b] H λd H'=>d=.val (.bool (gh l n a b))/\H=H':=by
 refine aq (K:=λd=>d=.val (.bool (gh l n a b))) ?_;obtain⟨m1,m2,d5,rV,dp,dn⟩:=hR;refine dO func285 ntmps285 results285 λw0 g0 Q aB=>?_;refine t0 ?_;intro U Y O C;refine(OG n a b1 b2 _).q ?_;by_cases ha:bN n a
 case neg=>
  rw[af ha];refine t0 ?_;intro U Y O C;refine EX aB trivial ?_;exact⟨_,aF _,aF _,_,aL (aF _),by rw[lP λh=>ha h.1]⟩
 rw[ah ha];refine t0 ?_;intro U Y O C;refine(OG n b b1 b2 _).q ?_;by_cases hb:bN n b
 case neg=>
  rw[af hb];refine t0 ?_;intro U Y O C;refine EX aB trivial ?_;exact⟨_,aF _,aF _,_,aL (aF _),by rw[lP λh=>hb h.2.1]⟩
 rw[ah hb];unfold bN at ha hb;have b8: -9223372036854775808<=a/\a<=9223372036854775807:=by omega
 have a3: -9223372036854775808<=b/\b<=9223372036854775807:=by omega
 have d3:=fZ.nil.ok (P:=prog) underlying3 b8;refine to trivial ?_;intro U Y O C;intro m al;refine⟨d3,?_⟩;have c0:fZ (eJ [] (.int .i64 a) (.val (.bool true))) (ig [a]):=((fZ.nil.set b8 (.val (.bool true))).congr λx=>by rw[<-uc a [] x,<-Cn]);refine to trivial ?_;intro U Y O C;intro bq am;obtain⟨M,hM⟩:=oX (eJ [] (.int .i64 a) (.val (.bool true)));rw[<-hM] at am c0 ⊢;have bb:(H.aU m (.map M)) m=some (.map M):=aK _ _ _;have c7:m≠bq:=lj bb am;have c5:H bq=none:=(bF.1 am).2;refine t0 ?_;intro U Y O C;refine jz (OI l n a b b1 b2 m H) (2 * (n.toNat - 1)+1) ⟨rfl,rfl,rfl,rfl,aQ (aQ (aF _) al) c5,by omega,M,[a],[a],some bq,(aJ c7).trans bb,c0,.inr ⟨bq,0,0,[[i64 a]],rfl,rfl,c5,aK _ _ _,rfl,by simp⟩,(λe=>c7 (by injection e with e;exact e.symm)),⟨by simp,(by intro x hx;rw[bM] at hx;subst hx;exact⟨ha,.refl _⟩),by simp,by simp,(by intro x hx hq;exact absurd hx hq)⟩,by simp⟩ ?_;rintro k s ⟨D,f0,A,B,aM,hk,M,S,q,ob,N,ag,bt,d7,R,d6⟩;cases q with
 |nil=>
  have b7:∀v:Bool,(b∈S↔v=true)->v=gh l n a b:=λv hv=>by
   cases v with
   |true=>rw[yq ⟨ha,hb,(R.inr b (hv.2 rfl)).2⟩]
   |false=>rw[lP];rintro⟨_,_,hr⟩;exact absurd (hv.1 (vk R.st (λx hx y F=>R.cl x hx (by simp) (by simp) y F) hr)) (by simp)
  have E:=ag.get b
  have a2:=ag.ok (P:=prog) underlying3 a3
  have q0:∃c o k',s.fr 8=.val (.slice none 0 0)\/s.fr 8=.os c o 1 k' 0:=by
   rcases bt with⟨_,h,_⟩|⟨c,o,k',_,_,h,_⟩
   ·exact⟨0,0,0,.inl h⟩
   ·exact⟨c,o,k',.inr h⟩
  obtain⟨c,o,k',q0⟩:=q0
  by_cases a6:b∈S
  ·have u:ig S b=some (.val (.bool true)):=aD a6
   rw[u] at E
   have hv:=b7 true (by simp [a6])
   rcases q0 with f8|f8
   ·refine tq (cw A B f8 N E) ?_;intro U Y O C;refine⟨a2,?_⟩;refine ur aB (bQ A B f8) D ?_;exact zf aM (by rw[hv])
   ·refine tq (cw A B f8 N E) ?_;intro U Y O C;refine⟨a2,?_⟩;refine ur aB (bQ A B f8) D ?_;exact zf aM (by rw[hv])
  ·have u:ig S b=none:=aC a6
   rw[u] at E
   have hv:=b7 false (by simp [a6])
   rcases q0 with f8|f8
   ·refine tq (cw A B f8 N E) ?_;intro U Y O C;refine⟨a2,?_⟩;refine ur aB (bQ A B f8) D ?_;exact zf aM (by rw[hv])
   ·refine tq (cw A B f8 N E) ?_;intro U Y O C;refine⟨a2,?_⟩;refine ur aB (bQ A B f8) D ?_;exact zf aM (by rw[hv])
 |cons x q=>
  obtain⟨c,o,kq,aa,d8,f8,cv,bl,dm,dl,d1,br,ce⟩:=Gk.cons (show Gk H 3 1 (iD x::q.map iD) (s.fr 8) s.H ob from bt)
  have b3:=R.inr x (R.qs x (by simp))
  have cc: -9223372036854775808<=x/\x<=9223372036854775807:=by have:=b3.1;unfold bN at this;omega
  rw[aS] at f8
  have q1:=nT ((0:Int)<((q.length+1:Nat):Int))
  have cd:aa[kq]?=some [.val (.int .i64 x)]:=d1
  have w1:=nT ((1:Int)<=((q.length+1:Nat):Int))
  have bf:s.H b1=some (.map m1):=aM _ _ d5
  have c1:=rV.ok (P:=prog) underlying3 cc
  have T:=rV.get x
  (iterate 10 (refine tk (bG f0 A B f8 q1 w1 bl cd) ?_;intro U Y O C))
  have ci:c≠m:=λe=>d7 (by rw[d8,e])
  refine Gu 40 (.val (.slice none 0 0)) (.seq 1 []) fO (λs'=>s'.df=[]/\s'.fr 0=fJ n b1 b2/\s'.fr 2=i64 b/\s'.fr 7=.val (.map (some m))/\s'.fr 8=.os c o 1 (kq+1) q.length/\s'.fr 40=.seq 1 ((fA l x).map iD)/\s'.fr 41=i64 (fA l x).length/\s'.fr 42=i64 0/\s'.H=s.H) ?_ ?_
  ·unfold Aa at T
   by_cases a8:fA l x=[]
   ·rw[aD a8] at T
    refine tq (eP f0 A B @fJ.eq_1 bf T) ?_;intro U Y O C
    refine⟨c1,Y _ (.inr ⟨rfl,D,f0,A,B,rfl,by rw[a8] <;> rfl,by rw[a8] <;> rfl,rfl,rfl⟩)⟩
   ·rw[aC a8] at T
    refine tq (eP f0 A B @fJ.eq_1 bf T) ?_;intro U Y O C
    refine⟨c1,Y _ (.inl ⟨D,f0,A,B,rfl,rfl,rfl,rfl,rfl⟩)⟩
  rintro s1 ⟨c9,g0,g2,g7,g8,ck,co,cq,ae⟩
  have ye:(fA l x).length<=l.length:=by unfold fA;rw[aS];exact kU _ _
  have dt:(aa.drop (kq+1))=q.map iD:=br
  refine nP ?_
  refine aO (fA l x).length (λi s=>s.df=[]/\s.fr 0=fJ n b1 b2/\s.fr 2=i64 b/\s.fr 7=.val (.map (some m))/\s.fr 40=.seq 1 ((fA l x).map iD)/\s.fr 41=i64 (fA l x).length/\s.fr 42=i64 i/\H.le s.H/\∃M S q ob,s.H m=some (.map M)/\fZ M (ig S)/\Gk H 3 1 (q.map iD) (s.fr 8) s.H ob/\ob≠some m/\RJ l n a (some x) S q/\x∈S/\(∀j (h:j<i) (h2:j<(fA l x).length),(fA l x)[j]∈S)/\2 * (n.toNat - S.length)+q.length<k) ?_ ?_
  ·refine⟨c9,g0,g2,g7,ck,co,cq,by rw[ae];exact aM,M,S,q,some c,by rw[ae];exact N,ag,.inr ⟨c,o,kq+1,aa,rfl,by rw[g8,aS],cv,by rw[ae];exact bl,br,ce⟩,(λe=>ci (by injection e)),⟨R.nd,R.inr,R.st,λy F=>R.qs y (by simp [F]),λz hz G L3 y F=>R.cl z hz (by simp [G];intro e;exact L3 (by rw[e])) (by simp) y F⟩,R.qs x (by simp),by omega,by simp at d6;omega⟩
  rintro i s2 hi ⟨a1,k0,J,L,V,I,g,Z,M3,W,q3,b6,w,r,ab,a5,f,bk,aw,bi⟩
  have b0:=aX i
  have ad:=aZ i
  have ac:(List.map iD (fA l x)).length=(fA l x).length:=aS _
  by_cases t:i<(fA l x).length
  case neg=>
   have p1:=nF ((i:Int)<((fA l x).length:Int));refine tq (bQ I g p1) ?_;intro U Y O C;refine⟨_,?_,a1,k0,J,L,Z,?_,M3,W,q3,b6,w,r,ab,a5,⟨f.nd,f.inr,f.st,f.qs,λz hz G _ y F=>?_⟩,bh _⟩
   ·exact bi
   ·omega
   ·by_cases L3:z=x
    ·subst L3
     obtain⟨j,hj,rfl⟩:=kV (sf.2 F);exact aw j (by omega) hj
    ·exact f.cl z hz G (by simpa using L3) y F
  have p1:=nT ((i:Int)<((fA l x).length:Int))
  have a7:=bT t
  obtain⟨y,F⟩:=oX ((fA l x)[i])
  rw[<-F] at a7
  have b5:(x,y)∈l:=sf.1 (by rw[F];exact ao t)
  have c6:=(d2 _ b5).2
  have b9: -9223372036854775808<=y/\y<=9223372036854775807:=by have:=c6;unfold bN at this;simp only at this;omega
  have w3:=wS i
  have d4:=r.ok (P:=prog) underlying3 a3
  have ar:=r.ok (P:=prog) underlying3 b9
  by_cases b4:y=b
  ·have p2:(y=b)=True:=aG b4
   refine tq (bG J L V I g p1 p2 (eP a7 b0 ad t ac w)) ?_;intro U Y O C
   refine⟨d4,?_⟩
   have cr:=r.set a3 (.val (.bool true))
   have bc:=cr.ok (P:=prog) underlying3 a3
   have be:=jJ M3 (.int .i64 b) (.val (.bool true))
   obtain⟨X,ak⟩:=oX (eJ M3 (.int .i64 b) (.val (.bool true)))
   rw[<-ak] at bc be ⊢
   have c2:(s2.H.aU m (.map X)) m=some (.map X):=aK _ _ _
   have a0:H.le (s2.H.aU m (.map X)):=aQ Z al
   refine tq (bQ J L be) ?_;intro U Y O C
   refine⟨bc,?_⟩
   refine ur aB (av J L) a1 ?_
   refine⟨_,aF _,a0,_,aL a0,?_⟩
   rw[yq ⟨ha,hb,(b3.2).step (b4▸b5)⟩]
  have p2:(y=b)=False:=aI b4
  have a4:=r.get y
  by_cases a9:y∈W
  ·have u:ig W y=some (.val (.bool true)):=aD a9
   rw[u] at a4
   refine tq (bG J L V I g p1 p2 (ej a7 b0 ad t ac w a4)) ?_;intro U Y O C
   refine⟨ar,?_⟩
   refine tq (cA J L g w3) ?_;intro U Y O C
   refine⟨t,a1,k0,J,L,V,I,rfl,Z,M3,W,q3,b6,w,r,ab,a5,f,bk,λj hj h2=>?_,bi⟩
   by_cases ap:j=i
   ·subst ap;rw[<-F];exact a9
   ·exact aw j (by omega) h2
  ·have u:ig W y=none:=aC a9
   rw[u] at a4
   refine tq (bG J L V I g p1 p2 (ej a7 b0 ad t ac w a4)) ?_;intro U Y O C
   refine⟨ar,?_⟩
   refine tq (cA J L g w) ?_;intro U Y O C
   refine⟨ar,?_⟩
   have bo:fZ (eJ M3 (.int .i64 y) (.val (.bool true))) (ig (y::W)):=(r.set b9 (.val (.bool true))).congr (uc y W)
   obtain⟨X,ak⟩:=oX (eJ M3 (.int .i64 y) (.val (.bool true)))
   rw[<-ak] at bo ⊢
   have c2:(s2.H.aU m (.map X)) m=some (.map X):=aK _ _ _
   have a0:H.le (s2.H.aU m (.map X)):=aQ Z al
   have ch:Gk H 3 1 (q3.map iD) (s2.fr 8) (s2.H.aU m (.map X)) b6:=ab.cM λc' ct=>aJ λe=>a5 (by rw[ct,e])
   refine tq (cA J L g w3) ?_;intro U Y O C
   have c4:(y::W).Nodup:=pO.2 ⟨a9,f.nd⟩
   have ba:∀z∈y::W,bN n z/\Reach l a z:=λz hz=>by
    rcases bV.1 hz with rfl|hz
    ·exact⟨c6,b3.2.step b5⟩
    ·exact f.inr z hz
   have dk:=ju c4 λz hz=>(ba z hz).1
   refine Br (e:=3) fk rfl fk rfl yv rfl (by decide) a0 ch (new:=[iD y]) (by exact⟨rfl,rfl⟩) (by rw[aS];show(_+1) * 8<=_;omega) λd H6 de bs c8 d9=>?_
   have c3:=d9 _ _ c2 a5
   rw[show[iD y]=[y].map iD from rfl,<-bI] at bs
   refine tq (cA J L g w3) ?_;intro U Y O C
   refine⟨t,a1,k0,J,L,V,I,rfl,c8,X,y::W,q3++[y],de,c3.1,bo,Gk.of bs,c3.2,⟨c4,ba,dH _ f.st,?_,?_⟩,dH _ bk,?_,?_⟩
   ·intro z hz
    rcases bB.1 hz with hz|hz
    ·exact dH _ (f.qs z hz)
    ·rw[bM] at hz;subst hz;exact jm
   ·intro z hz G L3 y' dd
    rcases bV.1 hz with rfl|hz
    ·exact absurd (bB.2 (.inr (by simp))) G
    ·exact dH _ (f.cl z hz (λh=>G (bB.2 (.inl h))) L3 y' dd)
   ·intro j hj h2
    by_cases ap:j=i
    ·subst ap;rw[<-F];exact jm
    ·exact dH _ (aw j (by omega) h2)
   ·rw[aV,bx,eE] at *
    omega
def HsI (l:List Int) (x:Int) (H:aA) (i:Nat) (s:St):Prop:=s.df=[]/\s.fr 0=.seq 1 (l.map iD)/\s.fr 1=i64 x/\s.fr 5=i64 i/\s.H=H/\x∉l.take i
theorem WX (l:List Int)(x:Int)(hl:l.length<=140737488351232):aN prog 326 [.seq 1 (l.map iD),i64 x] .none λd _=>d=.val (.bool (decide (x∈l))):=by
 have f:=lm iD l;refine dO func326 ntmps326 results326 λD A Q u=>?_;refine tz ?_;refine aO l.length (HsI l x .none) ⟨rfl,rfl,rfl,rfl,rfl,by simp⟩ ?_;rintro i s B ⟨e,j,k,q,w,r⟩;have v:=aX i;have g:=aZ i;by_cases c:i<l.length
 case neg=>
  have o:=lF i l.length;rw[bK (show l.length<=i by omega)] at r;refine ur u (cw j k q f o) e ?_;exact⟨_,aF _,by rw[af r]⟩
 have o:=lT i l.length;have h:=bT c;have z:=wS i;by_cases m:l[i]=x
 ·have t:(l[i]=x)=True:=aG m
  have hm:x∈l:=m▸ao c;refine ur u (bG j k q f o t h (bQ v g c)) e ?_;exact⟨_,aF _,by rw[ah hm]⟩
 ·have t:(l[i]=x)=False:=aI m
  refine tq (bG j k q f o t h (cA v g c z)) ?_;intro U Y O C;refine⟨c,e,j,k,rfl,w,?_⟩;rw[bw c];intro hm;rcases bB.1 hm with hm|hm
  ·exact r hm
  ·rw[bM] at hm;exact m hm.symm
theorem WY {H:aA}{d:D}{l:List Int}{x:Int}(c:gy H 1 d (·=l.map iD))(hl:l.length<=140737488351232):aN prog 326 [d,i64 x] H λr H'=>r=.val (.bool (decide (x∈l)))/\H=H':=
 qf (WX l x hl) rfl (MM (Q4 c) (iU _ _))
def KO (l:List (Int×Int)) (n a b:Int) (H:aA) (s:St) (i:Nat) (S:List Int) (z:Option Int):Prop:=
 s.df=[]/\s.fr 0=.seq 2 (l.map pD)/\s.fr 1=i64 n/\s.fr 2=i64 a/\s.fr 3=i64 b/\s.fr 10=i64 i/\H.le s.H/\(∃c o,s.fr 9=.os c o 1 0 S.length/\H c=none/\s.H c=some (.row 3 o 1 (S.map iD)))/\RJ l n a z S (S.drop i)/\b∉S.take i
theorem JT (l:List (Int×Int))(n a b:Int)(H:aA)(b5:∀p∈l,bN n p.1/\bN n p.2)(hn:n<=1000000)(hl:l.length<=1000000):aN am 260 [.seq 2 (l.map pD),i64 n,i64 a,i64 b] H λd H'=>d=.val (.bool (gh l n a b))/\H=H':=by
 refine aq (K:=λd=>d=.val (.bool (gh l n a b))) ?_;have ae:=lm pD l;refine dO func260 ntmps260 results260 λw0 G Q aB=>?_;by_cases h1:a<0
 ·have p1:(a<0)=True:=aG h1
  refine ur aB p1 trivial ?_;exact⟨_,aF _,aF _,_,aL (aF _),by rw[lP λh=>by have:=h.1.1;omega]⟩
 have p1:(a<0)=False:=aI h1;by_cases h2:n<=a
 ·have p2:(n<=a)=True:=aG h2
  refine ur aB (av p1 p2) trivial ?_;exact⟨_,aF _,aF _,_,aL (aF _),by rw[lP λh=>by have:=h.1.2;omega]⟩
 have p2:(n<=a)=False:=aI h2;by_cases h3:b<0
 ·have p3:(b<0)=True:=aG h3
  refine ur aB (bQ p1 p2 p3) trivial ?_;exact⟨_,aF _,aF _,_,aL (aF _),by rw[lP λh=>by have:=h.2.1.1;omega]⟩
 have p3:(b<0)=False:=aI h3;by_cases h4:n<=b
 ·have p4:(n<=b)=True:=aG h4
  refine ur aB (cA p1 p2 p3 p4) trivial ?_;exact⟨_,aF _,aF _,_,aL (aF _),by rw[lP λh=>by have:=h.2.1.2;omega]⟩
 have p4:(n<=b)=False:=aI h4;have ha:bN n a:=⟨by omega,by omega⟩;have hb:bN n b:=⟨by omega,by omega⟩;refine to (cA p1 p2 p3 p4) ?_;intro U Y O C;intro c hc;refine t0 ?_;intro U Y O C;refine jz (λk s=>∃i S,KO l n a b H s i S none/\i<=S.length/\k=n.toNat - i) n.toNat ⟨0,[a],⟨rfl,rfl,rfl,rfl,rfl,rfl,aQ (aF _) hc,⟨c,0,rfl,hc,aK _ _ _⟩,⟨by simp,(by intro x F;rw[bM] at F;subst F;exact⟨ha,.refl _⟩),by simp,by simp,(by intro x F hq;exact absurd F hq)⟩,by simp⟩,by simp,by omega⟩ ?_;rintro k s ⟨i,S,⟨a9,f0,f1,f2,f3,a0,aM,⟨c',o,f9,b1,a7⟩,P,a8⟩,bc,hk⟩;have bb:=ju P.nd λz hz=>(P.inr z hz).1;have F:=aX i;have I:=aZ i;by_cases L:i<S.length
 case neg=>
  have q1:=lF i S.length;rw[bK (show S.length<=i by omega)] at a8;have b2:∀x∈S,∀y,(x,y)∈l->y∈S:=λx F y hy=>P.cl x F (by rw[cb (by omega)];simp) (by simp) y hy;refine ur aB (bQ f9 a0 q1) a9 ?_;exact zf aM (by rw[lP λh=>a8 (vk P.st b2 h.2.2)])
 have q1:=lT i S.length;have aa:=bT L;obtain⟨x,N⟩:=oX S[i];rw[<-N] at aa;have b8:x∈S:=N▸ao L;by_cases a5:x=b
 ·have q2:(x=b)=True:=aG a5
  refine ur aB (bG f3 f9 a0 q1 q2 a7 aa (av F I)) a9 ?_;exact zf aM (by rw[yq ⟨ha,hb,a5▸(P.inr x b8).2⟩])
 have q2:(x=b)=False:=aI a5;refine tq (bG f3 f9 a0 q1 q2 a7 aa (av F I)) ?_;intro U Y O C;have ac:S.drop i=x::S.drop (i+1):=by rw[cL L,<-N]
 have b0:b∉S.take (i+1):=by
  rw[bw L,<-N];intro hm;rcases bB.1 hm with hm|hm
  ·exact a8 hm
  ·rw[bM] at hm;exact a5 hm.symm
 refine aO l.length (λj s=>s.df=[]/\s.fr 0=.seq 2 (l.map pD)/\s.fr 1=i64 n/\s.fr 2=i64 a/\s.fr 3=i64 b/\s.fr 10=i64 i/\s.fr 11=i64 j/\H.le s.H/\∃S,(∃c o,s.fr 9=.os c o 1 0 S.length/\H c=none/\s.H c=some (.row 3 o 1 (S.map iD)))/\RJ l n a (some x) S (S.drop (i+1))/\S[i]?=some x/\b∉S.take (i+1)/\∀m (h:m<l.length),m<j->l[m].1=x->l[m].2∈S) ?_ ?_
 ·exact⟨a9,f0,f1,f2,f3,a0,rfl,aM,S,⟨c',o,f9,b1,a7⟩,⟨P.nd,P.inr,P.st,λz hz=>P.qs z (by rw[ac];exact dH _ hz),λz hz E L3 y hy=>P.cl z hz (by rw[ac];intro hm;rcases bV.1 hm with hm|hm;exact L3 (by rw[hm]);exact E hm) (by simp) y hy⟩,by rw[az L,N],b0,λm h hm=>by omega⟩
 rintro j s2 hj ⟨V,G,g1,g2,g3,B,g,T,r,⟨c2,o2,g9,Z,t⟩,f,D,X,W⟩;have b4:i<r.length:=(gI.1 D).1;have ba:=ju f.nd λz hz=>(f.inr z hz).1;have a2:=aX j;have a1:=aZ j;by_cases q:j<l.length
 case neg=>
  have q3:=lF j l.length;have w3:=wS i;refine tq (eP G B g ae q3 w3) ?_;intro U Y O C;refine⟨n.toNat - (i+1),(show _<_ by omega),i+1,r,⟨V,G,g1,g2,g3,rfl,T,⟨c2,o2,g9,Z,t⟩,⟨f.nd,f.inr,f.st,f.qs,λz hz E _ y hy=>?_⟩,X⟩,by omega,rfl⟩;by_cases L3:z=x
  ·subst L3
   obtain⟨m,hm,he⟩:=kV hy;have:=W m hm (by omega) (by rw[he]);rwa[he] at this
  ·exact f.cl z hz E (by simpa using L3) y hy
 have q3:=lT j l.length;have J:=il q;have a6:(r.map iD)[i]?=some [.val (.int .i64 x)]:=by rw[bg,D];rfl
 have w4:=wS j;have q4:=lT i r.length;obtain⟨u,hu⟩:=oX l[j].1;obtain⟨v,hv⟩:=oX l[j].2;rw[<-hu,<-hv] at J;have al:(u,v)∈l:=by rw[hu,hv];exact ao q
 refine tq (cA G g ae q3) ?_;intro U Y O C;by_cases a3:u=x
 case neg=>
  have q5:(u=x)=False:=aI a3;refine dE (λ_ _ _ _=>False) λU Y=>?_;refine dst (bG G g9 B g t J a6 (ej F I a2 a1 q q4 q5)) ?_;intro U Y O C;refine tq (av g w4) ?_;intro U Y O C;refine⟨q,V,G,g1,g2,g3,B,rfl,T,r,⟨c2,o2,g9,Z,t⟩,f,D,X,λm hm ag he=>?_⟩;by_cases M:m=j
  ·subst M;exact absurd he (by rw[<-hu];exact a3)
  ·exact W m hm (by omega) he
 have q5:(u=x)=True:=aG a3;have R:cP am 326 [.os c2 o2 1 0 r.length,.val (.int .i64 v)] s2.H λd A=>A=aA.none/\d=.val (.bool (decide (v∈r))):=
  an λb9 ar=>WY (Iv (ar _ _ t) (by rw[aS])) (by omega)
 by_cases a4:v∈r
 ·have q6:decide (v∈r)=true:=ah a4
  rw[q6] at R;refine dE (λ_ _ d A=>A=.none/\d=.val (.bool true)) λU Y=>?_;refine dst (bG G g9 B g t J a6 (ej F I a2 a1 q q4 q5)) ?_;intro U Y O C;refine⟨R,C _ ?_⟩;refine dst trivial ?_;intro U Y O C;refine tq (av g w4) ?_;intro U Y O C;refine⟨q,V,G,g1,g2,g3,B,rfl,T,r,⟨c2,o2,g9,Z,t⟩,f,D,X,λm hm ag he=>?_⟩;by_cases M:m=j
  ·subst M;rw[<-hv];exact a4
  ·exact W m hm (by omega) he
 ·have q6:decide (v∈r)=false:=af a4
  rw[q6] at R;refine dE (λ_ _ d A=>A=.none/\d=.val (.bool false)) λU Y=>?_;refine dst (bG G g9 B g t J a6 (ej F I a2 a1 q q4 q5)) ?_;intro U Y O C;refine⟨R,C _ ?_⟩;refine dst trivial ?_;intro U Y O C;refine tq (bG G g9 B g J a2 a1 q) ?_;intro U Y O C;have b6:=(b5 _ al).2;have b7:Reach l a x:=(f.inr x (eh D)).2;have ak:(r++[v]).Nodup:=by
   rw[mW];exact⟨f.nd,by simp,λz hz w hw=>by rw[bM] at hw;subst hw;exact λe=>a4 (e▸hz)⟩
  have ab:∀z∈r++[v],bN n z/\Reach l a z:=λz hz=>by
   rcases bB.1 hz with hz|hz
   ·exact f.inr z hz
   ·rw[bM] at hz;subst hz;exact⟨b6,b7.step (a3▸al)⟩
  have be:=ju ak λz hz=>(ab z hz).1;have b3:Gl H 3 1 (r.map iD) (.os c2 o2 1 0 r.length) s2.H (some c2):=.inr ⟨c2,o2,rfl,by rw[aS],Z,t⟩;refine ax (e:=3) fk rfl fk rfl yv rfl (by decide) T b3 (new:=[iD v]) (by exact⟨rfl,rfl⟩) (by rw[aS];show(_+1) * 8<=_;omega) λd H6 bf ad ap _=>?_;rw[show[iD v]=[v].map iD from rfl,<-bI] at ad;have aw:∃c o,d=.os c o 1 0 (r++[v]).length/\H c=none/\H6 c=some (.row 3 o 1 ((r++[v]).map iD)):=by
   rcases ad with⟨_,_,h⟩|⟨c,o,_,h1,h2,h3⟩
   ·simp at h
   ·exact⟨c,o,by rw[h1,aS],h2,h3⟩
  refine tq (av g w4) ?_;intro U Y O C;refine⟨q,V,G,g1,g2,g3,B,rfl,ap,r++[v],aw,⟨ak,ab,bB.2 (.inl f.st),?_,?_⟩,?_,?_,?_⟩
  ·intro z hz;exact List.mem_of_mem_drop hz
  ·intro z hz E L3 y hy
   rcases bB.1 hz with hz|hz
   ·refine bB.2 (.inl (f.cl z hz (λh=>E ?_) L3 y hy))
    rw[List.drop_append_of_le_length (by omega)];exact bB.2 (.inl h)
   ·exact absurd (by rw[List.drop_append_of_le_length (by omega)];exact bB.2 (.inr hz)) E
  ·rw[kT b4];exact D
  ·rw[uh (by omega)];exact X
  ·intro m hm ag he
   by_cases M:m=j
   ·subst M;rw[<-hv];exact bB.2 (.inr (by simp))
   ·exact bB.2 (.inl (W m hm (by omega) he))
end Go.Proofs.YtffgfafbffdgaaaGreatDoor
