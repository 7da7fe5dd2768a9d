/- Lemmas and contracts of functions, several texts in one. -/
import Derived.Test.YtffgfafbffdgaaaGreatDoorR12
set_option maxRecDepth 100000
set_option maxHeartbeats 4000000
set_option linter.all false
namespace Go.Proofs.YtffgfafbffdgaaaGreatDoor
open Go.RowKit
variable {ts:List bp}{i a n b y:Int}{x:Int×Int}{l:List (Int×Int)}{lc:List mQ}{p:gR}
def B4 (x:Int×Int):Int:=if x.1≠0/\x.1≠1 then 14 else if x.1=0/\x.2≠0 then 2 else if x.2<0 then 3 else 0
def mg:List (Int×Int)->Int
 |[]=>0
 |x::l=>if B4 x≠0 then B4 x else mg l
def gC (p:gR):Int:=if p.lo<0 then 3 else if 32<p.pr.length then 19 else mg p.pr
def gG (ts:List bp) (i:Int) (x:Int×Int):Int×Int:=
 if x.1=0/\(bY ts i).k=3 then ((bY ts i).e,0) else if x.1=1/\(bY ts i).k=4 then (if x.2<(bY ts i).ar.length then ((bY ts i).ar.getD x.2.toNat 0,0) else (0,3)) else (0,22)
def tB (ts:List bp):Int->List (Int×Int)->Int×Int
 |i,[]=>(i,0)
 |i,x::l=>if (gG ts i x).2≠0 then gG ts i x else tB ts (gG ts i x).1 l
def qg (ts:List bp):Int->List (Int×Int)->List bp
 |_,[]=>[]
 |i,x::l=>(if x.1=0 then [bY ts i] else [])++qg ts (gG ts i x).1 l
def mj (lc:List mQ) (a:Int):mQ:=lc.getD a.toNat ⟨ByteArray.empty,0⟩
def bJ (ts:List bp) (lc:List mQ) (p:gR):Int×Int:=
 if gC p≠0 then (0,gC p) else if (lc.length:Int)<=p.lo then (0,3) else tB ts (mj lc p.lo).ty p.pr
def jN (ts:List bp) (lc:List mQ) (p:gR):List bp:=if (bJ ts lc p).2≠0 then [] else qg ts (mj lc p.lo).ty p.pr
def ml (ts:List bp) (lc:List mQ) (p:gR):Bool:=decide ((bJ ts lc p).2=0)&&(jN ts lc p).all (·.m)
def tj (ts:List bp) (lc:List mQ) (p:gR):List Int:=(jN ts lc p).map (·.r)
def pC (p:gR) (k:Nat):Bool:=(p.pr.drop k).any λx=>decide (x.1=0)
def Gi (ts:List bp) (lc:List mQ):Prop:=∀x∈lc,bN ts.length x.ty
theorem TR (h:(gG ts i x).2≠0):(gG ts i x).1=0:=by
 unfold gG at h ⊢;split
 ·rename_i c;rw[aD c] at h;exact absurd rfl h
 ·rename_i c
  rw[aC c] at h;split
  ·rename_i e
   rw[aD e] at h;split
   ·rename_i f;rw[aD f] at h;exact absurd rfl h
   ·rfl
  ·rfl
theorem IC (o:pI ts)(hi:bN ts.length i)(h:(gG ts i x).2=0):bN ts.length (gG ts i x).1:=by
 have c:=qx o hi;have g:=hi;unfold bN at g ⊢;unfold gG at h ⊢;split
 ·rename_i e
  have:=c.1 e.2;simp only;omega
 ·rename_i e
  rw[aC e] at h;split
  ·rename_i f
   rw[aD f] at h;split
   ·rename_i j
    have m:∀y∈(bY ts i).ar,0<=y/\y<i:=c.2;by_cases k:x.2.toNat<(bY ts i).ar.length
    ·rw[gZ,az k]
     have:=m _ (ao k);simp only[rF];omega
    ·rw[gZ,lu (by omega)]
     simp only[Option.getD_none];omega
   ·rename_i j;rw[aC j] at h;cases h
  ·rename_i f;rw[aC f] at h;cases h
theorem Co (h:(gG ts i x).2≠0):tB ts i (x::l)=gG ts i x:=aD h
theorem vx (h:(gG ts i x).2=0):tB ts i (x::l)=tB ts (gG ts i x).1 l:=aC λk=>k h
theorem BG:∀{l:List (Int×Int)}{i:Int},(tB ts i l).2≠0->tB ts i (l++[x])=tB ts i l
 |[],i,h=>absurd rfl h
 |y::l,i,h=>by
  rw[dJ];by_cases h1:(gG ts i y).2=0
  ·rw[vx h1] at h
   rw[vx h1,vx h1];exact BG h
  ·rw[Co h1,Co h1]
theorem BH:∀{l:List (Int×Int)}{i:Int},(tB ts i l).2=0->tB ts i (l++[x])=gG ts (tB ts i l).1 x
 |[],i,h=>by
  show tB ts i [x]=gG ts i x;by_cases h1:(gG ts i x).2=0
  ·rw[vx h1]
   show((gG ts i x).1,(0:Int))=gG ts i x;rw[<-h1]
  ·rw[Co h1]
 |y::l,i,h=>by
  rw[dJ];by_cases h1:(gG ts i y).2=0
  ·rw[vx h1] at h
   rw[vx h1,vx h1];exact BH h
  ·rw[Co h1] at h
   exact absurd h h1
theorem IV (c:pI ts):∀(l:List (Int×Int)) (i:Int),bN ts.length i->(tB ts i l).2=0->bN ts.length (tB ts i l).1
 |[],i,hi,_=>hi
 |x::l,i,hi,h=>by
  simp only[tB] at h ⊢;by_cases h1:(gG ts i x).2≠0
  ·rw[aD h1] at h;exact absurd h h1
  ·rw[aC h1] at h ⊢
   exact IV c l _ (IC c hi (eC h1)) h
theorem KB:∀(l:List (Int×Int)) (i:Int),(tB ts i l).2≠0->(tB ts i l).1=0
 |[],i,h=>absurd rfl h
 |x::l,i,h=>by
  simp only[tB] at h ⊢;by_cases h1:(gG ts i x).2≠0
  ·rw[aD h1];exact TR h1
  ·rw[aC h1] at h ⊢;exact KB l _ h
theorem Fc (h:0<=a/\a<lc.length):∃h',mj lc a=lc[a.toNat]'h':=by
 refine⟨by omega,?_⟩;unfold mj;rw[gZ,az (by omega)];rfl
theorem mS (h:gC p=0):0<=p.lo/\p.pr.length<=32/\mg p.pr=0:=by
 unfold gC at h;split at h
 ·cases h
 ·split at h
  ·cases h
  ·exact⟨by omega,by omega,h⟩
theorem zm:∀{l:List (Int×Int)},mg l=0->∀x∈l,(x.1=0\/x.1=1)/\0<=x.2
 |x::l,h,y,hy=>by
  simp only[mg] at h;by_cases h1:B4 x≠0
  ·rw[aD h1] at h;exact absurd h h1
  ·rw[aC h1] at h
   rcases bV.1 hy with rfl|hy
   ·have h2:B4 y=0:=eC h1
    unfold B4 at h2;split at h2
    ·cases h2
    ·rename_i c
     split at h2
     ·cases h2
     ·split at h2
      ·cases h2
      ·omega
   ·exact zm h y hy
theorem oH (h:(bJ ts lc p).2=0):gC p=0/\(0<=p.lo/\p.lo<lc.length)/\bJ ts lc p=tB ts (mj lc p.lo).ty p.pr:=by
 unfold bJ at h ⊢;by_cases e:gC p≠0
 ·rw[aD e] at h;exact absurd h e
 ·have c:gC p=0:=eC e
  rw[aC e] at h ⊢;by_cases f:(lc.length:Int)<=p.lo
  ·rw[aD f] at h;cases h
  ·rw[aC f] at h ⊢
   exact⟨c,⟨(mS c).1,by omega⟩,rfl⟩
theorem yj (hl:Gi ts lc)(h:0<=a/\a<lc.length):bN ts.length (mj lc a).ty:=by
 obtain⟨c,e⟩:=Fc h;rw[e];exact hl _ (ao c)
theorem Cp (f:pI ts)(hl:Gi ts lc)(h:(bJ ts lc p).2=0):bN ts.length (bJ ts lc p).1:=by
 obtain⟨_,c,e⟩:=oH h;rw[e] at h ⊢;exact IV f _ _ (yj hl c) h
def mr (ts:List bp):Nat->Int×Int->List (Int×Int)->List (Nat×Int×Int)
 |k,s,[]=>[(k,s)]
 |k,s,x::l=>(k,s)::(if s.2≠0 then [] else mr ts (k+1) (gG ts s.1 x) l)
def nI (ts:List bp) (lc:List mQ) (p:gR):List (Nat×Int×Int):=
 if gC p≠0 then [(0,0,gC p)] else if (lc.length:Int)<=p.lo then [(0,0,3)] else mr ts 0 ((mj lc p.lo).ty,0) p.pr
theorem Cl (ts:List bp):∀(l:List (Int×Int)) (k:Nat) (s:Int×Int),∃j,(mr ts k s l).getLast?=some (j,if s.2≠0 then s else tB ts s.1 l)
 |[],k,s=>⟨k,by
  show some (k,s)=_;by_cases h:s.2=0
  ·rw[aC (λh'=>h' h)];show _=some (k,s.1,(0:Int));rw[<-h]
  ·rw[aD h]⟩
 |x::l,k,s=>by
  simp only[mr];by_cases h:s.2=0
  ·rw[aC (λh'=>h' h),aC (λh'=>h' h)]
   obtain⟨j,hj⟩:=Cl ts l (k+1) (gG ts s.1 x);refine⟨j,?_⟩;cases e:mr ts (k+1) (gG ts s.1 x) l with
   |nil=>rw[e] at hj;cases hj
   |cons a m=>rw[List.getLast?_cons_cons,<-e,hj];rfl
  ·rw[aD h,aD h];exact⟨k,rfl⟩
theorem Cm (ts:List bp)(lc:List mQ)(p:gR):∃j,(nI ts lc p).getLast?=some (j,bJ ts lc p):=by
 unfold nI bJ;by_cases e:gC p=0
 ·have n1:¬gC p≠0:=λh=>h e
  rw[aC n1,aC n1];by_cases c:(lc.length:Int)<=p.lo
  ·rw[aD c,aD c];exact⟨0,rfl⟩
  ·rw[aC c,aC c]
   obtain⟨j,f⟩:=Cl ts p.pr 0 ((mj lc p.lo).ty,0);exact⟨j,f⟩
 ·rw[aD e,aD e];exact⟨0,rfl⟩
theorem Jt (c:pI ts):∀(l:List (Int×Int)) (k:Nat) (s:Int×Int),(s.2=0->bN ts.length s.1)->∀x∈mr ts k s l,x.2.2=0->bN ts.length x.2.1
 |[],k,s,hs,x,hx,h0=>by
  simp only[mr,bM] at hx;subst hx;exact hs h0
 |y::l,k,s,hs,x,hx,h0=>by
  simp only[mr] at hx;rcases bV.1 hx with rfl|hx
  ·exact hs h0
  ·by_cases h:s.2=0
   ·rw[aC (λh'=>h' h)] at hx
    exact Jt c l _ _ (λh2=>IC c (hs h) h2) x hx h0
   ·rw[aD h] at hx;cases hx
theorem UE (g:pI ts)(hl:Gi ts lc){x:Nat×Int×Int}(hx:x∈nI ts lc p)(h0:x.2.2=0):bN ts.length x.2.1:=by
 unfold nI at hx;by_cases c:gC p=0
 ·rw[aC (λf=>f c)] at hx
  by_cases e:(lc.length:Int)<=p.lo
  ·rw[aD e] at hx
   rw[bM] at hx;subst hx;cases h0
  ·rw[aC e] at hx
   exact Jt g _ _ _ (λ_=>yj hl ⟨(mS c).1,by omega⟩) x hx h0
 ·rw[aD c] at hx
  rw[bM] at hx;subst hx;exact absurd h0 c
theorem GV:∀(l:List (Int×Int)) (k:Nat) (s:Int×Int),∀x∈mr ts k s l,x.2.2≠0->(if s.2≠0 then s else tB ts s.1 l)=x.2
 |[],k,s,x,hx,h0=>by
  simp only[mr,bM] at hx;subst hx;exact aD h0
 |y::l,k,s,x,hx,h0=>by
  simp only[mr] at hx;rcases bV.1 hx with rfl|hx
  ·exact aD h0
  ·by_cases h:s.2=0
   ·rw[aC (λh'=>h' h)] at hx ⊢
    exact GV l _ _ x hx h0
   ·rw[aD h] at hx;cases hx
theorem GY {x:Nat×Int×Int}(hx:x∈nI ts lc p)(h0:x.2.2≠0):(bJ ts lc p).2≠0:=by
 unfold nI at hx;unfold bJ;by_cases e:gC p=0
 ·rw[aC (λc=>c e)] at hx ⊢
  by_cases f:(lc.length:Int)<=p.lo
  ·rw[aD f];simp
  ·rw[aC f] at hx ⊢
   have:=GV _ _ _ x hx h0;rw[aC (λc=>c rfl)] at this;simp only at this;rw[this];exact h0
 ·rw[aD e];exact e
def tp (ts:List bp) (e:List (Int×Int)) (c:List (Nat×Int×Int)):List bp:=c.flatMap λx=>if x.1<e.length/\(e.getD x.1 (1,0)).1=0 then [bY ts x.2.1] else []
theorem GK {c:List (Int×Int)}:∀(l:List (Int×Int)) (k:Nat) (s:Int×Int),c.drop k=l->(∀x∈mr ts k s l,x.2.2=0)->tp ts c (mr ts k s l)=qg ts s.1 l
 |[],k,s,hd,hz=>by
  have hk:¬k<c.length:=λh=>by
   have:=ai List.length hd;rw[gd,dX] at this;omega
  simp [tp,mr,qg,hk]
 |y::l,k,s,hd,hz=>by
  have hk:k<c.length:=by
   have:=ai List.length hd;rw[gd,bx] at this;omega
  have r:c.getD k (1,0)=y:=by
   rw[cL hk] at hd;injection hd with hd _
   rw[gZ,az hk,<-hd];rfl
  have f:c.drop (k+1)=l:=by
   rw[cL hk] at hd;injection hd
  have g:s.2=0:=hz (k,s) (by simp [mr]);have m:∀x∈mr ts (k+1) (gG ts s.1 y) l,x.2.2=0:=λx o=>hz x (by
   simp only[mr];rw[aC (λe=>e g)];exact dH _ o)
  have j:=GK l (k+1) (gG ts s.1 y) f m;simp only[mr];rw[aC (λe=>e g)];unfold tp at j ⊢;rw[lz,j,qg,r];simp [hk]
theorem P9 (h:(bJ ts lc p).2=0):tp ts p.pr (nI ts lc p)=qg ts (mj lc p.lo).ty p.pr:=by
 have c:∀x∈nI ts lc p,x.2.2=0:=λx j=>eC λf=>GY j f h;obtain⟨g,k,_⟩:=oH h;unfold nI at c ⊢;rw[aC (λe=>e g),aC (by omega)] at c ⊢;exact GK _ _ _ rfl c
theorem Lr (ts:List bp)(e:List (Int×Int))(c:List (Nat×Int×Int))(x:Nat×Int×Int):tp ts e (c++[x])=tp ts e c++(if x.1<e.length/\(e.getD x.1 (1,0)).1=0 then [bY ts x.2.1] else []):=by unfold tp;rw[gb];simp
theorem GX {ts:List bp}:∀(l:List (Int×Int)) (k:Nat) (s:Int×Int),(mr ts k s l).length<=l.length+1
 |[],k,s=>by simp [mr]
 |y::l,k,s=>by
  simp only[mr];split
  ·simp
  ·have:=GX (ts:=ts) l (k+1) (gG ts s.1 y)
   simp only[bx];omega
theorem QD:(nI ts lc p).length<=33:=by
 unfold nI;by_cases c:gC p=0
 ·rw[aC (λe=>e c)]
  split
  ·simp
  ·have:=GX (ts:=ts) p.pr 0 ((mj lc p.lo).ty,0)
   have:=(mS c).2.1;omega
 ·rw[aD c];simp
def ig (S:List Int) (x:Int):Option D:=if x∈S then some (.val (.bool true)) else none
theorem uc (x:Int)(S:List Int):∀y,(if y=x then some (D.val (.bool true)) else ig S y)=ig (x::S) y:=λy=>by
 unfold ig;by_cases h:y=x
 ·subst h;simp
 ·rw[aC h]
  have:(y∈x::S)=(y∈S):=by simp [h]
  simp only[this]
theorem Cn:∀y,(none:Option D)=ig [] y:=λy=>by simp [ig]
theorem xK:∀(N:Nat) (S:List Nat),S.Nodup->(∀x∈S,x<N)->S.length<=N
 |0,S,_,h=>by
  cases S with
  |nil=>simp
  |cons x S=>exact absurd (h x (by simp)) (by omega)
 |N+1,S,hn,h=>by
  by_cases hm:N∈S
  ·have h1:=xK N (S.erase N) (hn.erase N) λx c=>by
    have f:=(hn.mem_erase_iff).1 c;have:=h x f.2;omega
   rw[List.length_erase_of_mem hm] at h1
   omega
  ·have:=xK N S hn λx c=>by
    have:=h x c;have:x≠N:=λe=>hm (e▸c);omega
   omega
theorem ju {S:List Int}(hn:S.Nodup)(h:∀x∈S,bN n x):S.length<=n.toNat:=by
 have:=xK n.toNat (S.map Int.toNat) (by
  rw[yy,rE];rw[yy] at hn;refine List.Pairwise.imp_of_mem ?_ hn;intro a b j k c e;have f:=h a j;have g:=h b k;unfold bN at f g;exact c (by omega)) (λx m=>by
   obtain⟨y,o,rfl⟩:=cD.1 m;have:=h y o;unfold bN at this;omega)
 simpa using this
open Tryz
def yR (a b:Int):Int:=if a<b then -1 else if b<a then 1 else 0
theorem Uo (a:Int)(H:aA):aN prog 315 [i64 a] H λd H'=>d=.val (.bool false)/\H=H':=by
 refine dO func315 ntmps315 results315 λf e Q c=>?_;refine sg trivial ?_;refine EX c trivial ?_;exact⟨_,aF _,by first|rfl|exact⟨rfl,rfl⟩|assumption⟩
theorem Y3 (a b:Int)(H:aA):aN prog 249 [i64 a,i64 b] H λd H'=>d=i64 (yR a b)/\H=H':=by
 refine dO func249 ntmps249 results249 λk j Q c=>?_;refine sg trivial ?_;refine(Uo a _).q ?_;refine sg trivial ?_;refine(Uo b _).q ?_;unfold yR at c;by_cases e:a<b
 ·rw[aD e] at c
  have g:(a<b)=True:=aG e;refine sg g ?_;refine EX c trivial ?_;exact⟨_,aF _,by first|rfl|exact⟨rfl,rfl⟩|assumption⟩
 have g:(a<b)=False:=aI e;rw[aC e] at c;by_cases f:b<a
 ·rw[aD f] at c
  have h:(b<a)=True:=aG f;refine sg (av g h) ?_;refine EX c trivial ?_;exact⟨_,aF _,by first|rfl|exact⟨rfl,rfl⟩|assumption⟩
 have h:(b<a)=False:=aI f;rw[aC f] at c;refine sg (av g h) ?_;refine EX c trivial ?_;exact⟨_,aF _,by first|rfl|exact⟨rfl,rfl⟩|assumption⟩
def nB:List Int->List Int->Int
 |[],[]=>0
 |[],_::_=> -1
 |_::_,[]=>1
 |x::c,y::ys=>if yR x y=0 then nB c ys else yR x y
def CmI (l m:List Int) (H:aA) (i:Nat) (s:St):Prop:=s.df=[]/\s.fr 0=.seq 1 (l.map iD)/\s.fr 1=.seq 1 (m.map iD)/\s.fr 9=.seq 1 (l.map iD)/\s.fr 10=i64 l.length/\s.fr 11=i64 i/\s.H=H/\i<=m.length/\nB l m=nB (l.drop i) (m.drop i)
theorem Kn (l m:List Int)(H:aA)(hl:l.length<=140737488351232)(hm:m.length<=140737488351232):aN prog 172 [.seq 1 (l.map iD),.seq 1 (m.map iD)] H λd H'=>d=i64 (nB l m)/\H=H':=by
 have j:=lm iD l;have o:=lm iD m;refine dO func172 ntmps172 results172 λT R Q E=>?_;refine sg j ?_;refine aO l.length (CmI l m H) ⟨rfl,rfl,rfl,rfl,rfl,rfl,rfl,by omega,rfl⟩ ?_;rintro i s S ⟨h,t,u,v,f,g,z,N,I⟩;have L:=aX i;have w:=aZ i;by_cases c:i<l.length
 ·have B:=lT i l.length
  have A:=bT c;have P:=wS i;by_cases e:i<m.length
  ·have r:=nF ((m.length:Int)<=(i:Int))
   have J:=bT e;have k:nB l m=if yR l[i] m[i]=0 then nB (l.drop (i+1)) (m.drop (i+1)) else yR l[i] m[i]:=by rw[I,cL c,cL e];rfl
   refine sg (bG t u v f g j o (bG B r A J L w c e)) ?_;refine(Y3 l[i] m[i] _).q ?_;by_cases G:yR l[i] m[i]=0
   ·rw[aD G] at k
    have K:(yR l[i] m[i]=0)=True:=aG G;refine sg (bQ K g P) ?_;exact⟨c,h,t,u,v,f,rfl,z,by omega,k⟩
   ·rw[aC G] at k
    have K:(yR l[i] m[i]=0)=False:=aI G;refine sg K ?_;refine EX E h ?_;exact⟨_,aF _,by rw[k],z.symm⟩
  ·have r:=nT ((m.length:Int)<=(i:Int))
   have k:nB l m=1:=by rw[I,cL c,cb (show m.length<=i by omega)];rfl
   refine sg (bG t u v f g j o (eP B r A L w c)) ?_;refine EX E h ?_;exact⟨_,aF _,by rw[k],z.symm⟩
 ·have B:=lF i l.length
  have M:i=l.length:=by omega
  by_cases e:i<m.length
  ·have r:=nT ((l.length:Int)<(m.length:Int))
   have k:nB l m= -1:=by rw[I,cb (show l.length<=i by omega),cL e];rfl
   refine sg (bG t u v f g j o (av B r)) ?_;refine EX E h ?_;exact⟨_,aF _,by rw[k],z.symm⟩
  ·have r:=nF ((l.length:Int)<(m.length:Int))
   have k:nB l m=0:=by rw[I,cb (show l.length<=i by omega),cb (show m.length<=i by omega)];rfl
   refine sg (bG t u v f g j o (av B r)) ?_;refine EX E h ?_;exact⟨_,aF _,by rw[k],z.symm⟩
theorem zq (a b c d:Int)(H:aA):aN prog 172 [.seq 1 [[.val (.int .i64 a)],[.val (.int .i64 b)]],.seq 1 [[.val (.int .i64 c)],[.val (.int .i64 d)]]] H λx H'=>x=i64 (nB [a,b] [c,d])/\H=H':=
 Kn [a,b] [c,d] H (by simp) (by simp)
def mH (q p:Int×Int):Prop:=q.1<p.1\/(q.1=p.1/\q.2<p.2)
instance (q p:Int×Int):Decidable (mH q p):=by unfold mH;exact inferInstance
theorem Im (q p:Int×Int):(0<=nB [q.1,q.2] [p.1,p.2])↔¬mH q p:=by
 unfold mH;simp only[nB,yR];split <;> split <;> (try split) <;> omega
def GD:Option (Int×Int)->Int×Int->Bool
 |none,_=>true
 |some q,p=>decide (mH q p)
def ry (n:Int):Option (Int×Int)->List (Int×Int)->Nat
 |_,[]=>0
 |q,p::l=>if p.1<0\/p.2<0\/n<=p.1\/n<=p.2 then 3 else if p.1=p.2 then 2 else if GD q p then ry n (some p) l else 21
def fc (l:List (Int×Int)) (n:Int):Nat:=if 65535<l.length then 15 else ry n none l
def qE (l:List (Int×Int)):Nat->Option (Int×Int)
 |0=>none
 |i+1=>l[i]?
theorem il {i:Nat}(h:i<l.length):(l.map pD)[i]?=some [.val (.int .i64 l[i].1),.val (.int .i64 l[i].2)]:=by rw[bg,az h];rfl
def RcI (l:List (Int×Int)) (n:Int) (H:aA) (i:Nat) (s:St):Prop:=s.df=[]/\s.fr 0=.seq 2 (l.map pD)/\s.fr 1=i64 n/\s.fr 10=.seq 2 (l.map pD)/\s.fr 11=i64 l.length/\s.fr 12=i64 i/\H.le s.H/\ry n none l=ry n (qE l i) (l.drop i)
theorem GH (l:List (Int×Int))(n:Int)(H:aA)(hl:l.length<=140737488351232):aN prog 138 [.seq 2 (l.map pD),i64 n] H λd H'=>d=i64 (fc l n)/\H=H':=by
 have m:=lm pD l;refine aq (K:=λd=>d=i64 (fc l n)) ?_;refine dO func138 ntmps138 results138 λw0 g0 Q v=>?_;by_cases hb:65535<l.length
 ·have q0:=nT ((65535:Int)<(l.length:Int))
  have Z:fc l n=15:=aD hb;rw[Z] at v;refine sg (av m q0) ?_;refine EX v m ?_;exact⟨_,aF _,aF _,_,aL (aF _),rfl⟩
 have q0:=nF ((65535:Int)<(l.length:Int));have Z:fc l n=ry n none l:=aC hb;rw[Z] at v;refine sg (av m q0) ?_;refine aO l.length (RcI l n H) ⟨rfl,rfl,rfl,rfl,rfl,rfl,aF _,rfl⟩ ?_;rintro i s hi ⟨g,E,o,r,t,f,B,c⟩;have hx:=aX i;have T:=aZ i;by_cases k:i<l.length
 case neg=>
  have q1:=lF i l.length;rw[cb (show l.length<=i by omega)] at c;refine sg (cA r t f q1) ?_;refine EX v g ?_;exact⟨_,aF _,B,_,aL B,by rw[c] <;> rfl⟩
 have q1:=lT i l.length;have a0:=il k;have w3:=wS i;rw[cL k] at c;simp only[ry] at c;refine sg (bG E o r t f q1 a0 (cA hx T k m)) ?_;intro b V;refine cm 6 V ?_;have fin:∀(e:Nat),ry n none l=e->∃H',H'.le s.H/\H.le H'/\∃d0,uq H H' (i64 e) d0/\d0=i64 (ry n none l):=λe he=>⟨_,aF _,B,_,aL B,by rw[he]⟩;by_cases h1:min l[i].1 l[i].2<0
 ·rw[aD (by omega)] at c
  have M:(min l[i].1 l[i].2<0)=True:=aG h1;refine sg (bQ o f M) ?_;refine EX v g ?_;exact fin 3 c
 have M:(min l[i].1 l[i].2<0)=False:=aI h1;by_cases h2:n<=max l[i].1 l[i].2
 ·rw[aD (by omega)] at c
  have R:(n<=max l[i].1 l[i].2)=True:=aG h2;refine sg (cA o f M R) ?_;refine EX v g ?_;exact fin 3 c
 have R:(n<=max l[i].1 l[i].2)=False:=aI h2;rw[aC (by omega)] at c;by_cases N:l[i].1=l[i].2
 ·rw[aD N] at c
  have p3:(l[i].1=l[i].2)=True:=aG N;refine sg (cw o f M R p3) ?_;refine EX v g ?_;exact fin 2 c
 have p3:(l[i].1=l[i].2)=False:=aI N;rw[aC N] at c;refine sg (cw o f M R p3) ?_;by_cases a1:i=0
 ·have S:=nF ((0:Int)<(i:Int))
  have z:qE l i=none:=by rw[a1];rfl
  rw[z] at c;simp only[GD,dN] at c;refine Cz (λ_ _ _ _=>False) (by kernel_rfl) (by kernel_rfl) (by kernel_rfl) ?_;simp (maxSteps:=4000000) only[vX,vB,vT,vZ,ij,fh,Fp,yk,AX,gV,fE,fj,↓iR,yb,cU,DJ,ze,By,oi,od,pn,po,ki,j8,kh,ic,D.nilPtr,D.iM,D.iF,fH,Bj,CE,wX,gy,jw,fieldsOf,gU,B6,B7,B8,B9,sL,BT,D.cells,jx,DE,DB,pv,eK,eH,B3,BR,jd,EC,rS,Be,gP,TD.gX,TD.agg,Eo,rU,oe,FI,nZ,pY,pX,Ba,B5,mF,pZ,dR,eT,Value.oneCell',iX,iV,gp,reduceCtorEq,kY,iZ,dN,dY,↓reduceIte,Nat.reduceEqDiff,Int.reduceLE,Int.reduceLT,Int.reduceNeg,Int.reduceToNat,Nat.reduceAdd,Nat.reduceMul,Nat.reduceLeDiff,Nat.reduceMod,Nat.reduceSub,Int.reduceEq,Int.reduceNe,Int.reduceAdd,Int.reduceSub,Int.reduceMul,iW,cR,cO,cE,au,cF,fW,cp,eU,fK,fL,fQ,fR,fP,yx,mG,dh,St.out,jX,kI,jS,lG,iJ,or_true,true_or,or_false,pS,↓zi,E,o,f,i64,S];refine sg (av f w3) ?_;exact⟨k,g,E,o,r,t,rfl,B,by rw[c,qE,az k]⟩
 ·obtain⟨j,hj⟩:∃j,i=j+1:=⟨i - 1,by omega⟩
  have u:j<l.length:=by omega
  have S:=nT ((0:Int)<(i:Int));have J:=il u;have w4:IntKind.i64.wrap ((i:Int) - 1)=(j:Int):=by rw[aP (by omega)];omega
  have I:=aZ j;have L:=aX j;have G:=Im l[j] l[i];have z:qE l i=some l[j]:=by rw[hj,qE,az u]
  rw[z] at c;simp only[GD,dF] at c;by_cases P:mH l[j] l[i]
  ·rw[aD P] at c
   have p5:((0:Int)<=nB [l[j].1,l[j].2] [l[i].1,l[i].2])=False:=aI (λh=>G.1 h P);refine Cz (λ_ _ d A=>A=.none/\d=i64 (nB [l[j].1,l[j].2] [l[i].1,l[i].2])) (by kernel_rfl) (by kernel_rfl) (by kernel_rfl) ?_;simp (maxSteps:=4000000) only[vX,vB,vT,vZ,ij,fh,Fp,yk,AX,gV,fE,fj,↓iR,yb,cU,DJ,ze,By,oi,od,pn,po,ki,j8,kh,ic,D.nilPtr,D.iM,D.iF,fH,Bj,CE,wX,gy,jw,fieldsOf,gU,B6,B7,B8,B9,sL,BT,D.cells,jx,DE,DB,pv,eK,eH,B3,BR,jd,EC,rS,Be,gP,TD.gX,TD.agg,Eo,rU,oe,FI,nZ,pY,pX,Ba,B5,mF,pZ,dR,eT,Value.oneCell',iX,iV,gp,reduceCtorEq,kY,iZ,dN,dY,↓reduceIte,Nat.reduceEqDiff,Int.reduceLE,Int.reduceLT,Int.reduceNeg,Int.reduceToNat,Nat.reduceAdd,Nat.reduceMul,Nat.reduceLeDiff,Nat.reduceMod,Nat.reduceSub,Int.reduceEq,Int.reduceNe,Int.reduceAdd,Int.reduceSub,Int.reduceMul,iW,cR,cO,cE,au,cF,fW,cp,eU,fK,fL,fQ,fR,fP,yx,mG,dh,St.out,jX,kI,jS,lG,iJ,or_true,true_or,or_false,pS,↓zi,E,o,f,i64,S,p5,J,w4,I,L,u,m];refine⟨an λw _=>zq l[j].1 l[j].2 l[i].1 l[i].2 w,?_⟩;refine sg (av f w3) ?_;exact⟨k,g,E,o,r,t,rfl,B,by rw[c,qE,az k]⟩
  ·rw[aC P] at c
   have p5:((0:Int)<=nB [l[j].1,l[j].2] [l[i].1,l[i].2])=True:=aG (G.2 P);refine Cz (λ_ _ d A=>A=.none/\d=i64 (nB [l[j].1,l[j].2] [l[i].1,l[i].2])) (by kernel_rfl) (by kernel_rfl) (by kernel_rfl) ?_;simp (maxSteps:=4000000) only[vX,vB,vT,vZ,ij,fh,Fp,yk,AX,gV,fE,fj,↓iR,yb,cU,DJ,ze,By,oi,od,pn,po,ki,j8,kh,ic,D.nilPtr,D.iM,D.iF,fH,Bj,CE,wX,gy,jw,fieldsOf,gU,B6,B7,B8,B9,sL,BT,D.cells,jx,DE,DB,pv,eK,eH,B3,BR,jd,EC,rS,Be,gP,TD.gX,TD.agg,Eo,rU,oe,FI,nZ,pY,pX,Ba,B5,mF,pZ,dR,eT,Value.oneCell',iX,iV,gp,reduceCtorEq,kY,iZ,dN,dY,↓reduceIte,Nat.reduceEqDiff,Int.reduceLE,Int.reduceLT,Int.reduceNeg,Int.reduceToNat,Nat.reduceAdd,Nat.reduceMul,Nat.reduceLeDiff,Nat.reduceMod,Nat.reduceSub,Int.reduceEq,Int.reduceNe,Int.reduceAdd,Int.reduceSub,Int.reduceMul,iW,cR,cO,cE,au,cF,fW,cp,eU,fK,fL,fQ,fR,fP,yx,mG,dh,St.out,jX,kI,jS,lG,iJ,or_true,true_or,or_false,pS,↓zi,E,o,f,i64,S,p5,J,w4,I,L,u,m];refine⟨an λw _=>zq l[j].1 l[j].2 l[i].1 l[i].2 w,?_⟩;refine sg f ?_;refine EX v g ?_;exact fin 21 c
inductive Reach (l:List (Int×Int)):Int->Int->Prop
 |refl (a:Int):Reach l a a
 |step {a b c:Int}:Reach l a b->(b,c)∈l->Reach l a c
theorem Reach.trans {c:Int}(h:Reach l a b)(h':Reach l b c):Reach l a c:=by
 induction h' with
 |refl=>exact h
 |step _ e f=>exact .step f e
theorem vk {S:List Int}(ha:a∈S)(hc:∀x∈S,∀y,(x,y)∈l->y∈S)(h:Reach l a b):b∈S:=by
 induction h with
 |refl=>exact ha
 |step _ c e=>exact hc _ e _ c
open Classical in
noncomputable def gh (l:List (Int×Int)) (n a b:Int):Bool:=decide (bN n a/\bN n b/\Reach l a b)
open Classical in
theorem yq (h:bN n a/\bN n b/\Reach l a b):gh l n a b=true:=ah h
open Classical in
theorem lP (h:¬(bN n a/\bN n b/\Reach l a b)):gh l n a b=false:=af h
def fA (l:List (Int×Int)) (x:Int):List Int:=(l.filter λp=>decide (p.1=x)).map (·.2)
def cT (l:List (Int×Int)) (x:Int):List Int:=(l.filter λp=>decide (p.2=x)).map (·.1)
theorem sf {x:Int}:y∈fA l x↔(x,y)∈l:=by
 simp only[fA,cD,fN,dF];constructor
 ·rintro⟨⟨a,b⟩,⟨c,rfl⟩,rfl⟩;exact c
 ·intro h;exact⟨_,⟨h,rfl⟩,rfl⟩
theorem qC {x:Int}:y∈cT l x↔(y,x)∈l:=by
 simp only[cT,cD,fN,dF];constructor
 ·rintro⟨⟨a,b⟩,⟨c,rfl⟩,rfl⟩;exact c
 ·intro h;exact⟨_,⟨h,rfl⟩,rfl⟩
def Aa (l:List Int):Option D:=if l=[] then none else some (.seq 1 (l.map iD))
def fJ (n:Int) (c e:Nat):D:=.rp [i64 n,.val (.map (some c)),.val (.map (some e))]
def oc (l:List (Int×Int)) (f g:Nat) (H:aA):Prop:=∃c e,H f=some (.map c)/\fZ c (λx=>Aa (fA l x))/\H g=some (.map e)/\fZ e (λx=>Aa (cT l x))
theorem OG (n a:Int)(m o:Nat)(H:aA):aN prog 246 [fJ n m o,i64 a] H λd H'=>d=.val (.bool (decide (bN n a)))/\H=H':=by
 refine dO func246 ntmps246 results246 λs r Q c=>?_;by_cases f:0<=a
 ·have j:(0<=a)=True:=aG f
  by_cases g:a<n
  ·have k:(a<n)=True:=aG g
   have e:decide (bN n a)=true:=ah ⟨f,g⟩;rw[e] at c;refine tq (bQ @fJ.eq_1 j k) ?_;intro U Y O C;refine EX c @fJ.eq_1 ?_;exact⟨_,aF _,by first|rfl|exact⟨rfl,rfl⟩|assumption⟩
  ·have k:(a<n)=False:=aI g
   have e:decide (bN n a)=false:=af λh=>g h.2;rw[e] at c;refine tq (bQ @fJ.eq_1 j k) ?_;intro U Y O C;refine EX c @fJ.eq_1 ?_;exact⟨_,aF _,by first|rfl|exact⟨rfl,rfl⟩|assumption⟩
 ·have j:(0<=a)=False:=aI f
  have e:decide (bN n a)=false:=af λh=>f h.1;rw[e] at c;refine tq (av @fJ.eq_1 j) ?_;intro U Y O C;refine EX c @fJ.eq_1 ?_;exact⟨_,aF _,by first|rfl|exact⟨rfl,rfl⟩|assumption⟩
structure RJ (l:List (Int×Int)) (n a:Int) (z:Option Int) (S q:List Int):Prop where
 nd:S.Nodup
 inr:∀x∈S,bN n x/\Reach l a x
 st:a∈S
 qs:∀x∈q,x∈S
 cl:∀x∈S,x∉q->some x≠z->∀y,(x,y)∈l->y∈S
def OI (l:List (Int×Int)) (n a b:Int) (f g c:Nat) (H:aA) (k:Nat) (s:St):Prop:=
 s.df=[]/\s.fr 0=fJ n f g/\s.fr 2=i64 b/\s.fr 7=.val (.map (some c))/\H.le s.H/\k<=2 * n.toNat/\∃M S q e,s.H c=some (.map M)/\fZ M (ig S)/\Gk H 3 1 (q.map iD) (s.fr 8) s.H e/\e≠some c/\RJ l n a none S q/\2 * (n.toNat - S.length)+q.length<=k
theorem PR (l:List (Int×Int))(n a b:Int)(b1 b2:Nat)(H:aA)(hR:oc l b1 b2 H)(dm:∀p∈l,bN n p.1/\bN n p.2)(hn:n<=1000000)(hl:l.length<=1000000):aN prog 285 [fJ n b1 b2,i64 a,i64 b] H λd H'=>d=.val (.bool (gh l n a b))/\H=H':=by
 refine aq (K:=λd=>d=.val (.bool (gh l n a b))) ?_;obtain⟨m1,m2,dt,rV,e6,e5⟩:=hR;refine dO func285 ntmps285 results285 λw0 g0 Q aB=>?_;refine t0 ?_;intro U Y O C;refine(OG n a b1 b2 _).q ?_;by_cases ha:bN n a
 case neg=>
  rw[af ha];refine t0 ?_;intro U Y O C;refine EX aB trivial ?_;exact⟨_,aF _,aF _,_,aL (aF _),by rw[lP λh=>ha h.1]⟩
 rw[ah ha];refine t0 ?_;intro U Y O C;refine(OG n b b1 b2 _).q ?_;by_cases hb:bN n b
 case neg=>
  rw[af hb];refine t0 ?_;intro U Y O C;refine EX aB trivial ?_;exact⟨_,aF _,aF _,_,aL (aF _),by rw[lP λh=>hb h.2.1]⟩
 rw[ah hb];unfold bN at ha hb;have ba: -9223372036854775808<=a/\a<=9223372036854775807:=by omega
 have a5: -9223372036854775808<=b/\b<=9223372036854775807:=by omega
 have dn:=fZ.nil.ok (P:=prog) underlying3 ba;refine to trivial ?_;intro U Y O C;intro m ap;refine⟨dn,?_⟩;have c2:fZ (eJ [] (.int .i64 a) (.val (.bool true))) (ig [a]):=((fZ.nil.set ba (.val (.bool true))).congr λx=>by rw[<-uc a [] x,<-Cn]);refine to trivial ?_;intro U Y O C;intro bq ar;obtain⟨M,hM⟩:=oX (eJ [] (.int .i64 a) (.val (.bool true)));rw[<-hM] at ar c2 ⊢;have be:(H.aU m (.map M)) m=some (.map M):=aK _ _ _;have c9:m≠bq:=lj be ar;have c7:H bq=none:=(bF.1 ar).2;refine t0 ?_;intro U Y O C;refine jz (OI l n a b b1 b2 m H) (2 * (n.toNat - 1)+1) ⟨rfl,rfl,rfl,rfl,aQ (aQ (aF _) ap) c7,by omega,M,[a],[a],some bq,(aJ c9).trans be,c2,.inr ⟨bq,0,0,[[i64 a]],rfl,rfl,c7,aK _ _ _,rfl,by simp⟩,(λe=>c9 (by injection e with e;exact e.symm)),⟨by simp,(by intro x hx;rw[bM] at hx;subst hx;exact⟨ha,.refl _⟩),by simp,by simp,(by intro x hx hq;exact absurd hx hq)⟩,by simp⟩ ?_;rintro k s ⟨E,f0,A,B,aM,hk,M,S,q,ob,T,al,c1,dx,V,dv⟩;cases q with
 |nil=>
  have b9:∀v:Bool,(b∈S↔v=true)->v=gh l n a b:=λv hv=>by
   cases v with
   |true=>rw[yq ⟨ha,hb,(V.inr b (hv.2 rfl)).2⟩]
   |false=>rw[lP];rintro⟨_,_,hr⟩;exact absurd (hv.1 (vk V.st (λx hx y I=>V.cl x hx (by simp) (by simp) y I) hr)) (by simp)
  have G:=al.get b
  have a4:=al.ok (P:=prog) underlying3 a5
  have q0:∃c o k',s.fr 8=.val (.slice none 0 0)\/s.fr 8=.os c o 1 k' 0:=by
   rcases c1 with⟨_,h,_⟩|⟨c,o,k',_,_,h,_⟩
   ·exact⟨0,0,0,.inl h⟩
   ·exact⟨c,o,k',.inr h⟩
  obtain⟨c,o,k',q0⟩:=q0
  by_cases a8:b∈S
  ·have u:ig S b=some (.val (.bool true)):=aD a8
   rw[u] at G
   have hv:=b9 true (by simp [a8])
   rcases q0 with f8|f8
   ·refine tq (cw A B f8 T G) ?_;intro U Y O C;refine⟨a4,?_⟩;refine ur aB (bQ A B f8) E ?_;exact zf aM (by rw[hv])
   ·refine tq (cw A B f8 T G) ?_;intro U Y O C;refine⟨a4,?_⟩;refine ur aB (bQ A B f8) E ?_;exact zf aM (by rw[hv])
  ·have u:ig S b=none:=aC a8
   rw[u] at G
   have hv:=b9 false (by simp [a8])
   rcases q0 with f8|f8
   ·refine tq (cw A B f8 T G) ?_;intro U Y O C;refine⟨a4,?_⟩;refine ur aB (bQ A B f8) E ?_;exact zf aM (by rw[hv])
   ·refine tq (cw A B f8 T G) ?_;intro U Y O C;refine⟨a4,?_⟩;refine ur aB (bQ A B f8) E ?_;exact zf aM (by rw[hv])
 |cons x q=>
  obtain⟨c,o,kq,ac,dy,f8,dk,br,e4,e3,dl,bt,ci⟩:=Gk.cons (show Gk H 3 1 (iD x::q.map iD) (s.fr 8) s.H ob from c1)
  have b5:=V.inr x (V.qs x (by simp))
  have ce: -9223372036854775808<=x/\x<=9223372036854775807:=by have:=b5.1;unfold bN at this;omega
  rw[aS] at f8
  have q1:=nT ((0:Int)<((q.length+1:Nat):Int))
  have ch:ac[kq]?=some [.val (.int .i64 x)]:=dl
  have w1:=nT ((1:Int)<=((q.length+1:Nat):Int))
  have bk:s.H b1=some (.map m1):=aM _ _ dt
  have c3:=rV.ok (P:=prog) underlying3 ce
  have Z:=rV.get x
  (iterate 10 (refine tk (bG f0 A B f8 q1 w1 br ch) ?_;intro U Y O C))
  have cq:c≠m:=λe=>dx (by rw[dy,e])
  refine Gu 40 (.val (.slice none 0 0)) (.seq 1 []) fO (λs'=>s'.df=[]/\s'.fr 0=fJ n b1 b2/\s'.fr 2=i64 b/\s'.fr 7=.val (.map (some m))/\s'.fr 8=.os c o 1 (kq+1) q.length/\s'.fr 40=.seq 1 ((fA l x).map iD)/\s'.fr 41=i64 (fA l x).length/\s'.fr 42=i64 0/\s'.H=s.H) ?_ ?_
  ·unfold Aa at Z
   by_cases aa:fA l x=[]
   ·rw[aD aa] at Z
    refine tq (eP f0 A B @fJ.eq_1 bk Z) ?_;intro U Y O C
    refine⟨c3,Y _ (.inr ⟨rfl,E,f0,A,B,rfl,by rw[aa] <;> rfl,by rw[aa] <;> rfl,rfl,rfl⟩)⟩
   ·rw[aC aa] at Z
    refine tq (eP f0 A B @fJ.eq_1 bk Z) ?_;intro U Y O C
    refine⟨c3,Y _ (.inl ⟨E,f0,A,B,rfl,rfl,rfl,rfl,rfl⟩)⟩
  rintro s1 ⟨cd,g0,g2,g7,g8,cr,ct,cv,ak⟩
  have ye:(fA l x).length<=l.length:=by unfold fA;rw[aS];exact kU _ _
  have e7:(ac.drop (kq+1))=q.map iD:=bt
  refine nP ?_
  refine aO (fA l x).length (λi s=>s.df=[]/\s.fr 0=fJ n b1 b2/\s.fr 2=i64 b/\s.fr 7=.val (.map (some m))/\s.fr 40=.seq 1 ((fA l x).map iD)/\s.fr 41=i64 (fA l x).length/\s.fr 42=i64 i/\H.le s.H/\∃M S q ob,s.H m=some (.map M)/\fZ M (ig S)/\Gk H 3 1 (q.map iD) (s.fr 8) s.H ob/\ob≠some m/\RJ l n a (some x) S q/\x∈S/\(∀j (h:j<i) (h2:j<(fA l x).length),(fA l x)[j]∈S)/\2 * (n.toNat - S.length)+q.length<k) ?_ ?_
  ·refine⟨cd,g0,g2,g7,cr,ct,cv,by rw[ak];exact aM,M,S,q,some c,by rw[ak];exact T,al,.inr ⟨c,o,kq+1,ac,rfl,by rw[g8,aS],dk,by rw[ak];exact br,bt,ci⟩,(λe=>cq (by injection e)),⟨V.nd,V.inr,V.st,λy I=>V.qs y (by simp [I]),λz hz J L3 y I=>V.cl z hz (by simp [J];intro e;exact L3 (by rw[e])) (by simp) y I⟩,V.qs x (by simp),by omega,by simp at dv;omega⟩
  rintro i s2 hi ⟨a3,k0,N,R,a0,L,g,a1,M3,S3,q3,b8,w,r,ad,a7,f,bo,b3,bl⟩
  have b4:=aX i
  have ag:=aZ i
  have ae:(List.map iD (fA l x)).length=(fA l x).length:=aS _
  by_cases t:i<(fA l x).length
  case neg=>
   have p1:=nF ((i:Int)<((fA l x).length:Int));refine tq (bQ L g p1) ?_;intro U Y O C;refine⟨_,?_,a3,k0,N,R,a1,?_,M3,S3,q3,b8,w,r,ad,a7,⟨f.nd,f.inr,f.st,f.qs,λz hz J _ y I=>?_⟩,bh _⟩
   ·exact bl
   ·omega
   ·by_cases L3:z=x
    ·subst L3
     obtain⟨j,hj,rfl⟩:=kV (sf.2 I);exact b3 j (by omega) hj
    ·exact f.cl z hz J (by simpa using L3) y I
  have p1:=nT ((i:Int)<((fA l x).length:Int))
  have a9:=bT t
  obtain⟨y,I⟩:=oX ((fA l x)[i])
  rw[<-I] at a9
  have b7:(x,y)∈l:=sf.1 (by rw[I];exact ao t)
  have c8:=(dm _ b7).2
  have bb: -9223372036854775808<=y/\y<=9223372036854775807:=by have:=c8;unfold bN at this;simp only at this;omega
  have w3:=wS i
  have dp:=r.ok (P:=prog) underlying3 a5
  have b0:=r.ok (P:=prog) underlying3 bb
  by_cases b6:y=b
  ·have p2:(y=b)=True:=aG b6
   refine tq (bG N R a0 L g p1 p2 (eP a9 b4 ag t ae w)) ?_;intro U Y O C
   refine⟨dp,?_⟩
   have dd:=r.set a5 (.val (.bool true))
   have bf:=dd.ok (P:=prog) underlying3 a5
   have bi:=jJ M3 (.int .i64 b) (.val (.bool true))
   obtain⟨M4,am⟩:=oX (eJ M3 (.int .i64 b) (.val (.bool true)))
   rw[<-am] at bf bi ⊢
   have c4:(s2.H.aU m (.map M4)) m=some (.map M4):=aK _ _ _
   have a2:H.le (s2.H.aU m (.map M4)):=aQ a1 ap
   refine tq (bQ N R bi) ?_;intro U Y O C
   refine⟨bf,?_⟩
   refine ur aB (av N R) a3 ?_
   refine⟨_,aF _,a2,_,aL a2,?_⟩
   rw[yq ⟨ha,hb,(b5.2).step (b6▸b7)⟩]
  have p2:(y=b)=False:=aI b6
  have a6:=r.get y
  by_cases ab:y∈S3
  ·have u:ig S3 y=some (.val (.bool true)):=aD ab
   rw[u] at a6
   refine tq (bG N R a0 L g p1 p2 (ej a9 b4 ag t ae w a6)) ?_;intro U Y O C
   refine⟨b0,?_⟩
   refine tq (cA N R g w3) ?_;intro U Y O C
   refine⟨t,a3,k0,N,R,a0,L,rfl,a1,M3,S3,q3,b8,w,r,ad,a7,f,bo,λj hj h2=>?_,bl⟩
   by_cases aw:j=i
   ·subst aw;rw[<-I];exact ab
   ·exact b3 j (by omega) h2
  ·have u:ig S3 y=none:=aC ab
   rw[u] at a6
   refine tq (bG N R a0 L g p1 p2 (ej a9 b4 ag t ae w a6)) ?_;intro U Y O C
   refine⟨b0,?_⟩
   refine tq (cA N R g w) ?_;intro U Y O C
   refine⟨b0,?_⟩
   have bs:fZ (eJ M3 (.int .i64 y) (.val (.bool true))) (ig (y::S3)):=(r.set bb (.val (.bool true))).congr (uc y S3)
   obtain⟨M4,am⟩:=oX (eJ M3 (.int .i64 y) (.val (.bool true)))
   rw[<-am] at bs ⊢
   have c4:(s2.H.aU m (.map M4)) m=some (.map M4):=aK _ _ _
   have a2:H.le (s2.H.aU m (.map M4)):=aQ a1 ap
   have ck:Gk H 3 1 (q3.map iD) (s2.fr 8) (s2.H.aU m (.map M4)) b8:=ad.cM λc' de=>aJ λe=>a7 (by rw[de,e])
   refine tq (cA N R g w3) ?_;intro U Y O C
   have c6:(y::S3).Nodup:=pO.2 ⟨ab,f.nd⟩
   have bc:∀z∈y::S3,bN n z/\Reach l a z:=λz hz=>by
    rcases bV.1 hz with rfl|hz
    ·exact⟨c8,b5.2.step b7⟩
    ·exact f.inr z hz
   have e2:=ju c6 λz hz=>(bc z hz).1
   refine Br (e:=3) fk rfl fk rfl yv rfl (by decide) a2 ck (new:=[iD y]) (by exact⟨rfl,rfl⟩) (by rw[aS];show(_+1) * 8<=_;omega) λd H6 e1 c0 cc dz=>?_
   have c5:=dz _ _ c4 a7
   rw[show[iD y]=[y].map iD from rfl,<-bI] at c0
   refine tq (cA N R g w3) ?_;intro U Y O C
   refine⟨t,a3,k0,N,R,a0,L,rfl,cc,M4,y::S3,q3++[y],e1,c5.1,bs,Gk.of c0,c5.2,⟨c6,bc,dH _ f.st,?_,?_⟩,dH _ bo,?_,?_⟩
   ·intro z hz
    rcases bB.1 hz with hz|hz
    ·exact dH _ (f.qs z hz)
    ·rw[bM] at hz;subst hz;exact jm
   ·intro z hz J L3 y' e0
    rcases bV.1 hz with rfl|hz
    ·exact absurd (bB.2 (.inr (by simp))) J
    ·exact dH _ (f.cl z hz (λh=>J (bB.2 (.inl h))) L3 y' e0)
   ·intro j hj h2
    by_cases aw:j=i
    ·subst aw;rw[<-I];exact jm
    ·exact dH _ (b3 j (by omega) h2)
   ·rw[aV,bx,eE] at *
    omega
def HsI (l:List Int) (x:Int) (H:aA) (i:Nat) (s:St):Prop:=s.df=[]/\s.fr 0=.seq 1 (l.map iD)/\s.fr 1=i64 x/\s.fr 5=i64 i/\s.H=H/\x∉l.take i
theorem WX (l:List Int)(x:Int)(hl:l.length<=140737488351232):aN prog 326 [.seq 1 (l.map iD),i64 x] .none λd _=>d=.val (.bool (decide (x∈l))):=by
 have f:=lm iD l;refine dO func326 ntmps326 results326 λG B Q v=>?_;refine tz ?_;refine aO l.length (HsI l x .none) ⟨rfl,rfl,rfl,rfl,rfl,by simp⟩ ?_;rintro i s E ⟨e,j,k,r,z,t⟩;have w:=aX i;have g:=aZ i;by_cases c:i<l.length
 case neg=>
  have o:=lF i l.length;rw[bK (show l.length<=i by omega)] at t;refine ur v (cw j k r f o) e ?_;exact⟨_,aF _,by rw[af t]⟩
 have o:=lT i l.length;have h:=bT c;have A:=wS i;by_cases m:l[i]=x
 ·have u:(l[i]=x)=True:=aG m
  have hm:x∈l:=m▸ao c;refine ur v (bG j k r f o u h (bQ w g c)) e ?_;exact⟨_,aF _,by rw[ah hm]⟩
 ·have u:(l[i]=x)=False:=aI m
  refine tq (bG j k r f o u h (cA w g c A)) ?_;intro U Y O C;refine⟨c,e,j,k,rfl,z,?_⟩;rw[bw c];intro hm;rcases bB.1 hm with hm|hm
  ·exact t hm
  ·rw[bM] at hm;exact m hm.symm
theorem WY {H:aA}{d:D}{l:List Int}{x:Int}(c:gy H 1 d (·=l.map iD))(hl:l.length<=140737488351232):aN prog 326 [d,i64 x] H λr H'=>r=.val (.bool (decide (x∈l)))/\H=H':=
 qf (WX l x hl) rfl (MM (Q4 c) (iU _ _))
def KO (l:List (Int×Int)) (n a b:Int) (H:aA) (s:St) (i:Nat) (S:List Int) (z:Option Int):Prop:=
 s.df=[]/\s.fr 0=.seq 2 (l.map pD)/\s.fr 1=i64 n/\s.fr 2=i64 a/\s.fr 3=i64 b/\s.fr 10=i64 i/\H.le s.H/\(∃c o,s.fr 9=.os c o 1 0 S.length/\H c=none/\s.H c=some (.row 3 o 1 (S.map iD)))/\RJ l n a z S (S.drop i)/\b∉S.take i
theorem JT (l:List (Int×Int))(n a b:Int)(H:aA)(b9:∀p∈l,bN n p.1/\bN n p.2)(hn:n<=1000000)(hl:l.length<=1000000):aN prog 260 [.seq 2 (l.map pD),i64 n,i64 a,i64 b] H λd H'=>d=.val (.bool (gh l n a b))/\H=H':=by
 refine aq (K:=λd=>d=.val (.bool (gh l n a b))) ?_;have ap:=lm pD l;refine dO func260 ntmps260 results260 λw0 L Q aB=>?_;by_cases h1:a<0
 ·have p1:(a<0)=True:=aG h1
  refine ur aB p1 trivial ?_;exact⟨_,aF _,aF _,_,aL (aF _),by rw[lP λh=>by have:=h.1.1;omega]⟩
 have p1:(a<0)=False:=aI h1;by_cases h2:n<=a
 ·have p2:(n<=a)=True:=aG h2
  refine ur aB (av p1 p2) trivial ?_;exact⟨_,aF _,aF _,_,aL (aF _),by rw[lP λh=>by have:=h.1.2;omega]⟩
 have p2:(n<=a)=False:=aI h2;by_cases h3:b<0
 ·have p3:(b<0)=True:=aG h3
  refine ur aB (bQ p1 p2 p3) trivial ?_;exact⟨_,aF _,aF _,_,aL (aF _),by rw[lP λh=>by have:=h.2.1.1;omega]⟩
 have p3:(b<0)=False:=aI h3;by_cases h4:n<=b
 ·have p4:(n<=b)=True:=aG h4
  refine ur aB (cA p1 p2 p3 p4) trivial ?_;exact⟨_,aF _,aF _,_,aL (aF _),by rw[lP λh=>by have:=h.2.1.2;omega]⟩
 have p4:(n<=b)=False:=aI h4;have ha:bN n a:=⟨by omega,by omega⟩;have hb:bN n b:=⟨by omega,by omega⟩;refine to (cA p1 p2 p3 p4) ?_;intro U Y O C;intro c hc;refine t0 ?_;intro U Y O C;refine jz (λk s=>∃i S,KO l n a b H s i S none/\i<=S.length/\k=n.toNat - i) n.toNat ⟨0,[a],⟨rfl,rfl,rfl,rfl,rfl,rfl,aQ (aF _) hc,⟨c,0,rfl,hc,aK _ _ _⟩,⟨by simp,(by intro x J;rw[bM] at J;subst J;exact⟨ha,.refl _⟩),by simp,by simp,(by intro x J hq;exact absurd J hq)⟩,by simp⟩,by simp,by omega⟩ ?_;rintro k s ⟨i,S,⟨ae,f0,f1,f2,f3,a5,aM,⟨c',o,f9,b5,ac⟩,V,ad⟩,bk,hk⟩;have bi:=ju V.nd λz hz=>(V.inr z hz).1;have J:=aX i;have M:=aZ i;by_cases P:i<S.length
 case neg=>
  have q1:=lF i S.length;rw[bK (show S.length<=i by omega)] at ad;have b6:∀x∈S,∀y,(x,y)∈l->y∈S:=λx J y hy=>V.cl x J (by rw[cb (by omega)];simp) (by simp) y hy;refine ur aB (bQ f9 a5 q1) ae ?_;exact zf aM (by rw[lP λh=>ad (vk V.st b6 h.2.2)])
 have q1:=lT i S.length;have ag:=bT P;obtain⟨x,T⟩:=oX S[i];rw[<-T] at ag;have bc:x∈S:=T▸ao P;by_cases aa:x=b
 ·have q2:(x=b)=True:=aG aa
  refine ur aB (bG f3 f9 a5 q1 q2 ac ag (av J M)) ae ?_;exact zf aM (by rw[yq ⟨ha,hb,aa▸(V.inr x bc).2⟩])
 have q2:(x=b)=False:=aI aa;refine tq (bG f3 f9 a5 q1 q2 ac ag (av J M)) ?_;intro U Y O C;have al:S.drop i=x::S.drop (i+1):=by rw[cL P,<-T]
 have b4:b∉S.take (i+1):=by
  rw[bw P,<-T];intro hm;rcases bB.1 hm with hm|hm
  ·exact ad hm
  ·rw[bM] at hm;exact aa hm.symm
 refine aO l.length (λj s=>s.df=[]/\s.fr 0=.seq 2 (l.map pD)/\s.fr 1=i64 n/\s.fr 2=i64 a/\s.fr 3=i64 b/\s.fr 10=i64 i/\s.fr 11=i64 j/\H.le s.H/\∃S,(∃c o,s.fr 9=.os c o 1 0 S.length/\H c=none/\s.H c=some (.row 3 o 1 (S.map iD)))/\RJ l n a (some x) S (S.drop (i+1))/\S[i]?=some x/\b∉S.take (i+1)/\∀m (h:m<l.length),m<j->l[m].1=x->l[m].2∈S) ?_ ?_
 ·exact⟨ae,f0,f1,f2,f3,a5,rfl,aM,S,⟨c',o,f9,b5,ac⟩,⟨V.nd,V.inr,V.st,λz hz=>V.qs z (by rw[al];exact dH _ hz),λz hz I L3 y hy=>V.cl z hz (by rw[al];intro hm;rcases bV.1 hm with hm|hm;exact L3 (by rw[hm]);exact I hm) (by simp) y hy⟩,by rw[az P,T],b4,λm h hm=>by omega⟩
 rintro j s2 hj ⟨a1,L,g1,g2,g3,E,g,a0,t,⟨c2,o2,g9,a4,B⟩,f,G,a3,a2⟩;have b8:i<t.length:=(gI.1 G).1;have bf:=ju f.nd λz hz=>(f.inr z hz).1;have a7:=aX j;have a6:=aZ j;by_cases r:j<l.length
 case neg=>
  have q3:=lF j l.length;have w3:=wS i;refine tq (eP L E g ap q3 w3) ?_;intro U Y O C;refine⟨n.toNat - (i+1),(show _<_ by omega),i+1,t,⟨a1,L,g1,g2,g3,rfl,a0,⟨c2,o2,g9,a4,B⟩,⟨f.nd,f.inr,f.st,f.qs,λz hz I _ y hy=>?_⟩,a3⟩,by omega,rfl⟩;by_cases L3:z=x
  ·subst L3
   obtain⟨m,hm,he⟩:=kV hy;have:=a2 m hm (by omega) (by rw[he]);rwa[he] at this
  ·exact f.cl z hz I (by simpa using L3) y hy
 have q3:=lT j l.length;have N:=il r;have ab:(t.map iD)[i]?=some [.val (.int .i64 x)]:=by rw[bg,G];rfl
 have w4:=wS j;have q4:=lT i t.length;obtain⟨u,hu⟩:=oX l[j].1;obtain⟨v,hv⟩:=oX l[j].2;rw[<-hu,<-hv] at N;have b0:(u,v)∈l:=by rw[hu,hv];exact ao r
 refine tq (cA L g ap q3) ?_;intro U Y O C;by_cases a8:u=x
 case neg=>
  have q5:(u=x)=False:=aI a8;refine dE (λ_ _ _ _=>False) λU Y=>?_;refine dst (bG L g9 E g B N ab (ej J M a7 a6 r q4 q5)) ?_;intro U Y O C;refine tq (av g w4) ?_;intro U Y O C;refine⟨r,a1,L,g1,g2,g3,E,rfl,a0,t,⟨c2,o2,g9,a4,B⟩,f,G,a3,λm hm ar he=>?_⟩;by_cases R:m=j
  ·subst R;exact absurd he (by rw[<-hu];exact a8)
  ·exact a2 m hm (by omega) he
 have q5:(u=x)=True:=aG a8;have Z:cP prog 326 [.os c2 o2 1 0 t.length,.val (.int .i64 v)] s2.H λd A=>A=aA.none/\d=.val (.bool (decide (v∈t))):=
  an λbe b2=>WY (Iv (b2 _ _ B) (by rw[aS])) (by omega)
 by_cases a9:v∈t
 ·have q6:decide (v∈t)=true:=ah a9
  rw[q6] at Z;refine dE (λ_ _ d A=>A=.none/\d=.val (.bool true)) λU Y=>?_;refine dst (bG L g9 E g B N ab (ej J M a7 a6 r q4 q5)) ?_;intro U Y O C;refine⟨Z,C _ ?_⟩;refine dst trivial ?_;intro U Y O C;refine tq (av g w4) ?_;intro U Y O C;refine⟨r,a1,L,g1,g2,g3,E,rfl,a0,t,⟨c2,o2,g9,a4,B⟩,f,G,a3,λm hm ar he=>?_⟩;by_cases R:m=j
  ·subst R;rw[<-hv];exact a9
  ·exact a2 m hm (by omega) he
 ·have q6:decide (v∈t)=false:=af a9
  rw[q6] at Z;refine dE (λ_ _ d A=>A=.none/\d=.val (.bool false)) λU Y=>?_;refine dst (bG L g9 E g B N ab (ej J M a7 a6 r q4 q5)) ?_;intro U Y O C;refine⟨Z,C _ ?_⟩;refine dst trivial ?_;intro U Y O C;refine tq (bG L g9 E g N a7 a6 r) ?_;intro U Y O C;have ba:=(b9 _ b0).2;have bb:Reach l a x:=(f.inr x (eh G)).2;have aw:(t++[v]).Nodup:=by
   rw[mW];exact⟨f.nd,by simp,λz hz w hw=>by rw[bM] at hw;subst hw;exact λe=>a9 (e▸hz)⟩
  have ak:∀z∈t++[v],bN n z/\Reach l a z:=λz hz=>by
   rcases bB.1 hz with hz|hz
   ·exact f.inr z hz
   ·rw[bM] at hz;subst hz;exact⟨ba,bb.step (a8▸b0)⟩
  have bl:=ju aw λz hz=>(ak z hz).1;have b7:Gl H 3 1 (t.map iD) (.os c2 o2 1 0 t.length) s2.H (some c2):=.inr ⟨c2,o2,rfl,by rw[aS],a4,B⟩;refine ax (e:=3) fk rfl fk rfl yv rfl (by decide) a0 b7 (new:=[iD v]) (by exact⟨rfl,rfl⟩) (by rw[aS];show(_+1) * 8<=_;omega) λd H6 bm am b1 _=>?_;rw[show[iD v]=[v].map iD from rfl,<-bI] at am;have b3:∃c o,d=.os c o 1 0 (t++[v]).length/\H c=none/\H6 c=some (.row 3 o 1 ((t++[v]).map iD)):=by
   rcases am with⟨_,_,h⟩|⟨c,o,_,h1,h2,h3⟩
   ·simp at h
   ·exact⟨c,o,by rw[h1,aS],h2,h3⟩
  refine tq (av g w4) ?_;intro U Y O C;refine⟨r,a1,L,g1,g2,g3,E,rfl,b1,t++[v],b3,⟨aw,ak,bB.2 (.inl f.st),?_,?_⟩,?_,?_,?_⟩
  ·intro z hz;exact List.mem_of_mem_drop hz
  ·intro z hz I L3 y hy
   rcases bB.1 hz with hz|hz
   ·refine bB.2 (.inl (f.cl z hz (λh=>I ?_) L3 y hy))
    rw[List.drop_append_of_le_length (by omega)];exact bB.2 (.inl h)
   ·exact absurd (by rw[List.drop_append_of_le_length (by omega)];exact bB.2 (.inr hz)) I
  ·rw[kT b8];exact G
  ·rw[uh (by omega)];exact a3
  ·intro m hm ar he
   by_cases R:m=j
   ·subst R;rw[<-hv];exact bB.2 (.inr (by simp))
   ·exact bB.2 (.inl (a2 m hm (by omega) he))
end Go.Proofs.YtffgfafbffdgaaaGreatDoor
