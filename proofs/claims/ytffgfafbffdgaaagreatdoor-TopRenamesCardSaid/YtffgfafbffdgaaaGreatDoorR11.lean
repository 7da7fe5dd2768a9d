/- Lemmas and contracts of functions, several texts in one. -/
import Derived.WalkKit
import Derived.Lib.BitFns
import Derived.Test.YtffgfafbffdgaaaGreatDoorR09
import Derived.Test.YtffgfafbffdgaaaGreatDoorR10
set_option maxRecDepth 100000
set_option maxHeartbeats 4000000
set_option linter.all false
namespace Go.Proofs.YtffgfafbffdgaaaGreatDoor
def xP:Nat->Nat->List UInt8
 |0,_=>[]
 |k+1,n=>if n<128 then [UInt8.ofNat n] else UInt8.ofNat (n % 128+128)::xP k (n / 128)
def put (n:Nat):List UInt8:=xP 10 n
theorem Lo (k:Nat):∀m n,n<128 ^ k->k<=m->0<k->xP k n=xP m n:=by
 induction k with
 |zero=>intro m n _ _ h;omega
 |succ k c=>
  intro m n a f _
  obtain⟨m,rfl⟩:∃e,m=e+1:=⟨m - 1,by omega⟩
  simp only[xP]
  by_cases h:n<128
  ·rw[aD h,aD h]
  ·rw[aC h,aC h]
   congr 1
   have b:0<k:=by
    rcases k with _|k
    ·simp at a;omega
    ·omega
   exact c m (n / 128) (by rw[tQ] at a;omega) (by omega) b
theorem C8 (n:Nat) (h:n<128):put n=[UInt8.ofNat n]:=by unfold put;simp only[xP];rw[aD h]
theorem GG (n:Nat) (h:128<=n) (hn:n<18446744073709551616):put n=UInt8.ofNat (n % 128+128)::put (n / 128):=by
 have e:xP 9 (n / 128)=put (n / 128):=Lo 9 10 (n / 128) (by omega) (by omega) (by omega);show xP 10 n=_;rw[<-e];simp only[xP];rw[aC (by omega)]
theorem GF (k:Nat):∀n,n<128 ^ k->0<k->1<=(xP k n).length/\(xP k n).length<=k:=by
 induction k with
 |zero=>intro n _ h;omega
 |succ k c=>
  intro n a _
  simp only[xP]
  split
  ·simp
  ·have b:0<k:=by
    rcases k with _|k
    ·simp at a;omega
    ·omega
   have:=c (n / 128) (by rw[tQ] at a;omega) b
   simp;omega
theorem eX (n:Nat) (hn:n<18446744073709551616):1<=(put n).length/\(put n).length<=10:=GF 10 n (by omega) (by omega)
end Go.Proofs.YtffgfafbffdgaaaGreatDoor
namespace Go.Proofs.YtffgfafbffdgaaaGreatDoor
open Go.RowKit
variable {ds es el:List D}{H H' H0:aA}{cx:Cx}{x y:cY}{s:St}{p bs l:List UInt8}{k a n b o sz i aEY:Nat}{c:Code}{ty:TypeId}{els:List (List D)}
theorem qQ.NF {w:World}{S:Nat->Prop}:∀{ds es:List D}{vs:List Value},qQ ds es->aW w S ds vs->aW w S es vs
 |[],[],vs,_,h=>by simp only[aW] at h ⊢;exact h
 |d::ds,e::es,vs,hv,h=>by
  simp only[aW] at h ⊢;obtain⟨u,us,rfl,h0,h1,h2⟩:=h;exact⟨u,us,rfl,h0,hv.1 w S u h1,qQ.NF hv.2 h2⟩
 |[],_::_,_,hv,_=>hv.elim
 |_::_,[],_,hv,_=>hv.elim
theorem F8 (h:qQ ds es):U2 (.agg ds) (.agg es):=λw S v e=>by
 simp only[D.is] at e ⊢;obtain⟨g,rfl,f⟩:=e;exact⟨g,rfl,h.NF f⟩
theorem SH (h:qQ ds es):U2 (.rp ds) (.rp es):=λw S v e=>by
 simp only[D.is] at e ⊢;obtain⟨b,o,f,g,j,m⟩:=e;exact⟨b,o,f,g,j,h.at m⟩
theorem uq.imp {d d0 d1:D}(h:uq H H' d d0)(h2:U2 d0 d1):uq H H' d d1:=λw v e f=>h2 _ _ _ (h w v e f)
theorem nR {x:Code}{N:St->Prop}{Q:Exit->St->Prop}(M:St->Prop)(h1:W cx x (dR M (λ_ _=>False)) s)(h2:∀s,M s->N s):W cx x (dR N Q) s:=
 nA h1 λe f q=>by cases e <;> first|exact h2 f q|exact q.elim
theorem rl {x:Code}{N:St->Prop}{Q:Exit->St->Prop}(M:St->Prop)(h1:W cx x (dR M (λe f=>e≠ .normal/\Q e f)) s)(h2:∀s,M s->N s):W cx x (dR N Q) s:=
 nA h1 λe f q=>by cases e <;> first|exact h2 f q|exact q.2
open Tryz
theorem Nc {P:Program}{f:FuncId}{us:List Value}{v:Value}(z:Gj P f)(h:∀w,Calls P f us.toArray w λe m=>e=.returned v/\w=m):aN P f (us.map .val) .none λd _=>d=.val v:=
 And.intro z λw j js t _=>by
  have:j=us:=by
   clear h
   induction us generalizing j with
   |nil=>simpa only[fw,aT] using js
   |cons u us A=>
    simp only[cC,aT,D.is] at js
    obtain⟨_,g,rfl,rfl,r⟩:=js
    rw[A g r]
  subst this;refine(h w).mono ?_;rintro e m ⟨rfl,rfl⟩;exact⟨v,.val v,.none,rfl,lN _,t,dr _ _,rfl⟩
theorem XX (n:Nat)(H:aA)(hn:n<18446744073709551616):aN prog 161 [.val (.int .u64 n)] H λd H'=>(∃k:Nat,k<=10/\d=i64 k)/\H=H':=by
 have t:=aF H;have h:bits .or .u64 (n:Int) 1=((n|||1:Nat):Int):=u64_or_nat n 1 hn (by omega);have e:n|||1<2 ^ 64:=Nat.or_lt_two_pow hn (by omega)
 have j:=Lib.bitLen_le (n|||1) 64 (by omega) e;have f:aN prog 234 [.val (.int .u64 (n|||1:Nat))] H λd H'=>d=i64 (Lib.bitLen (n|||1))/\H=H':=
  qf (Nc (us:=[.int .u64 ((n|||1:Nat):Int)]) (jH func234 rfl rfl) λw=>Lf ((n|||1:Nat):Int) w (by omega) (by omega)) rfl (aBO (iU _ _))
 generalize Lib.bitLen (n|||1)=L at j f;have m:IntKind.i64.wrap ((L:Int)+6)=(L:Int)+6:=aP (by omega);have r:IntKind.i64.wrap (((L:Int)+6).tdiv 7)=(((L+6) / 7:Nat):Int):=by
  have:((L:Int)+6).tdiv 7=(((L+6) / 7:Nat):Int):=by rw[Int.tdiv_eq_ediv_of_nonneg (by omega)];omega
  rw[this,aP (by omega)]
 refine dO func161 ntmps161 results161 λv u Q g=>?_;refine tq h ?_;intro U Y O C;refine f.q ?_;refine ur g (av m r) trivial ?_;exact⟨_,aF _,⟨_,by omega,rfl⟩,rfl⟩
theorem ZH (m:Nat):bits .or .u8 ((m:Int) % (256:Int)) 128=(((UInt8.ofNat (m % 128+128)).toNat:Nat):Int):=by
 rw[show(m:Int) % (256:Int)=((m % 256:Nat):Int) by omega,show(128:Int)=((128:Nat):Int) by rfl,u8_or_nat _ _ (by omega) (by omega),pN];congr 1;have h:∀j:Fin 256,j.val|||128=(j.val % 128+128) % 2 ^ 8:=by decide+kernel
 have:=h ⟨m % 256,by omega⟩;simp only at this;rw[this];omega
theorem Uu (n:Nat)(H:aA)(hn:n<18446744073709551616):aN prog 86 [.val (.int .u64 n)] H λd H'=>d=.seq 1 ((put n).map bD)/\H=H':=by
 refine aq (K:=λd=>d=.seq 1 ((put n).map bD)) ?_;have A:=eX n hn;refine dO func86 ntmps86 results86 λw0 g0 Q S=>?_;refine t0 ?_;intro U Y O C;refine(XX n _ hn).mono ?_;rintro d _ ⟨⟨k,hk,rfl⟩,rfl⟩;refine t0 ?_;intro U Y O C;refine⟨by omega,by omega,by omega,λb J=>?_⟩;refine tz ?_;refine aO 10 (λi s=>s.df=[]/\∃(f:List UInt8) (x:Nat) (d:D) (P:Option Nat),f.length=i/\put n=f++put x/\x<18446744073709551616/\s.fr 0=.val (.int .u64 x)/\s.fr 3=d/\Gl H 5 1 (f.map bD) d s.H P/\H.le s.H) ⟨rfl,[],n,_,some b,rfl,rfl,hn,rfl,rfl,.inr ⟨b,0,rfl,rfl,J,aK _ _ _⟩,aQ (aF _) J⟩ ?_;rintro i s hi ⟨r,f,x,d,P,rfl,m,N,w,I,L,B⟩;have E:f.length+(put x).length<=10:=by rw[<-aV,<-m];exact A.2
 have Z:=eX x N;by_cases h:x<128
 case neg=>
  have q:=nT ((128:Int)<=(x:Int));have v:[D.val (.int .u8 (bits .or .u8 (IntKind.u8.wrap (x:Int)) 128))]=bD (UInt8.ofNat (x % 128+128)):=U9 (by rw[pJ];exact ZH x);have T:(x:Int).fdiv (2 ^ min 7 64)=((x / 128:Nat):Int):=by rw[show((2:Int) ^ min 7 64)=128 by decide,Int.fdiv_eq_ediv_of_nonneg _ (by omega)];omega
  have t:=GG x (by omega) N;rw[t,bx] at E;refine tq (bQ w I q) ?_;intro U Y O C;refine ax (e:=5) qL rfl qL rfl QP rfl (by decide) B L (new:=[bD (UInt8.ofNat (x % 128+128))]) (by rw[<-v];exact⟨rfl,rfl⟩) (by rw[aS];show(_+1) * 1<=_;omega) λG R u j g z=>?_;refine tq (av w T) ?_;intro U Y O C;refine⟨by show f.length<10;omega,r,f++[UInt8.ofNat (x % 128+128)],x / 128,G,u,by simp,by rw[m,t];simp,by omega,rfl,rfl,by rw[bI];exact j,g⟩
 have q:=nF ((128:Int)<=(x:Int));have M:put x=[UInt8.ofNat x]:=C8 x h;have v:[D.val (.int .u8 (IntKind.u8.wrap (x:Int)))]=bD (UInt8.ofNat x):=U9 (by rw[pJ,pN];omega);rw[M,eE] at E;refine tq (bQ w I q) ?_;intro U Y O C;refine ax (e:=5) qL rfl qL rfl QP rfl (by decide) B L (new:=[bD (UInt8.ofNat x)]) (by rw[<-v];exact⟨rfl,rfl⟩) (by rw[aS];show(_+1) * 1<=_;omega) λG R u j g z=>?_;refine ur S trivial r ?_;have V:f.map bD++[bD (UInt8.ofNat x)]=(put n).map bD:=by rw[m,M,bI];rfl
 rw[V] at j;exact⟨_,aF _,g,_,da g j,rfl⟩
theorem P4:∀(f n:Nat),n<128 ^ f->n<18446744073709551616->∀k,∀h:k<(put n).length,((put n)[k].toNat<128↔k+1=(put n).length)/\(put n)[k].toNat % 128=n / 128 ^ k % 128/\(0<n->(put n)[k].toNat≠0)/\(k+1=(put n).length->n<128 ^ (k+1))
 |0,n,hf,_,k,h=>by
  have h0:n=0:=by simpa using hf
  subst h0;have e:put 0=[0]:=rfl;simp only[e,eE] at h ⊢;have:k=0:=by omega
  subst this;simp
 |f+1,n,hf,hn,k,h=>by
  by_cases v:n<128
  ·have e:=C8 n v
   have g:(UInt8.ofNat n).toNat=n:=by rw[pN];omega
   have r:k=0:=by rw[e,eE] at h;omega
   subst r;have m:(put n)[0].toNat=n:=by simp only[e,zC,g]
   have j:(put n).length=1:=by rw[e];rfl
   rw[m,j,Nat.pow_zero,Nat.div_one];exact⟨by omega,rfl,by omega,by omega⟩
  ·have e:=GG n (by omega) hn
   have w:=eX (n / 128) (by omega);simp only[e,bx] at h ⊢;cases k with
   |zero=>
    have g:(UInt8.ofNat (n % 128+128)).toNat=n % 128+128:=by rw[pN];omega
    simp only[zC,g,Nat.pow_zero,Nat.div_one]
    omega
   |succ k=>
    obtain⟨m,j,t,u⟩:=P4 f (n / 128) (by rw[tQ] at hf;omega) (by omega) k (by omega)
    simp only[List.getElem_cons_succ]
    refine⟨by omega,?_,λ_=>t (by omega),λr=>?_⟩
    ·rw[j,Nat.div_div_eq_div_mul,tQ,Nat.mul_comm]
    ·have:=u (by omega)
     rw[tQ];omega
theorem Vc (c:UInt8):bits .and .u8 (c.toNat:Int) 127=((c.toNat % 128:Nat):Int):=by
 have h:=c.toNat_lt;have:∀n:Fin 256,bits .and .u8 ((n.val:Nat):Int) 127=((n.val % 128:Nat):Int):=by decide
 exact this ⟨c.toNat,by omega⟩
theorem XF (n m k:Nat)(hn:n<2 ^ k):n|||m * 2 ^ k=n+m * 2 ^ k:=by
 have h:=Nat.shiftLeft_add_eq_or_of_lt hn m;rw[Nat.shiftLeft_eq] at h;rw[Nat.or_comm,<-h,Nat.add_comm]
theorem Mk (n k:Nat)(c:UInt8)(hk:k<=9)(hn:n<18446744073709551616)(hc:c.toNat % 128=n / 128 ^ k % 128):
  bits .or .u64 ((n % 128 ^ k:Nat):Int) (IntKind.u64.wrap (IntKind.u64.wrap ((c.toNat % 128:Nat):Int) * 2 ^ min (IntKind.i64.wrap (7 * (k:Int))).toNat 64))=((n % 128 ^ (k+1):Nat):Int):=by
 have e:(128:Nat) ^ k=2 ^ (7 * k):=by rw[Nat.pow_mul]
 have f:IntKind.i64.wrap (7 * (k:Int))=((7 * k:Nat):Int):=by rw[aP (by omega)];omega
 have r:min (((7 * k:Nat):Int)).toNat 64=7 * k:=by omega
 have g:n % 128 ^ (k+1)=n % 128 ^ k+(c.toNat % 128) * 128 ^ k:=by rw[tQ,Nat.mod_mul,hc,Nat.mul_comm (128 ^ k)]
 have t:n % 128 ^ (k+1)<=n:=Nat.mod_le _ _;have j:n % 128 ^ k<2 ^ (7 * k):=by rw[<-e];exact Nat.mod_lt _ (Nat.pow_pos (by omega))
 have h:IntKind.u64.wrap (((c.toNat % 128:Nat):Int) * 2 ^ (7 * k))=((c.toNat % 128 * 128 ^ k:Nat):Int):=by
  have:((c.toNat % 128:Nat):Int) * 2 ^ (7 * k)=((c.toNat % 128 * 128 ^ k:Nat):Int):=by rw[e];simp
  rw[this];generalize c.toNat % 128 * 128 ^ k=m at *;exact iP (by omega)
 rw[f,r,iP (x:=((c.toNat % 128:Nat):Int)) (by omega),h,u64_or_nat _ _ (by omega) (by omega),g];congr 1;rw[e];exact XF _ _ _ (Nat.mod_lt _ (Nat.two_pow_pos _))
def L1 (p:List UInt8):List (Nat×UInt8):=(List.range p.length).map λk=>(k,p.getD k 0)
theorem vU (p:List UInt8):(L1 p).length=p.length:=by simp [L1]
theorem OF (h:k<p.length):(L1 p).take (k+1)=(L1 p).take k++[(k,p[k])]:=by
 rw[bw (by rw[vU];exact h)];simp [L1,List.getD,h]
def gyD (x:Nat×UInt8):List D:=[i64 x.1,.val (.int .u8 (x.2.toNat:Int))]
theorem OE (b:List UInt8)(H:aA):aN prog 239 [.seq 1 (b.map bD)] H λd H'=>d=.fn 307 [.rp [.seq 1 (b.map bD)]]/\H=H':=by
 refine dO func239 ntmps239 results239 λj h Q f=>?_;refine t0 ?_;intro U Y O C;intro g e;refine Y _ ?_;refine cm 1 e ?_;refine u0 f ?_;exact⟨_,aF _,rfl⟩
theorem LZ (p r:List UInt8)(hb:(p++r).length<=140737488351232)(hp:∀k,∀h:k<p.length,(p[k].toNat<128↔k+1=p.length))(h0:0<p.length):BY prog 307 [.rp [.seq 1 ((p++r).map bD)]] gyD (L1 p) λ_=>True:=by
 obtain⟨bs,w⟩:=oX (p++r);have z:∀k,∀h:k<p.length,(bs.map bD)[k]?=some [.val (.int .u8 (p[k].toNat:Int))]:=λk h=>by rw[bg,w,kT h,az h];rfl
 have a0:p.length<=bs.length:=by rw[w,aV];omega
 have v:(bs.map bD).length=bs.length:=aS _;rw[<-w] at hb ⊢;clear w;refine yg _ func307 rfl rfl ntmps307 results307 (by simp) λl J Jx H w0 g0 Q dC S T K=>?_;refine tn v ?_;refine aO p.length (λk s=>s.df=[]/\s.fr 0=yD l/\s.fr 5=.seq 1 (bs.map bD)/\s.fr 6=i64 bs.length/\s.fr 7=i64 k/\k<p.length/\J ((L1 p).take k) s.H) ⟨rfl,rfl,rfl,rfl,rfl,h0,S⟩ ?_;rintro k s hk ⟨g,t,L,M,N,f,Z⟩;have q1:=lT k bs.length;have hx:=aX k;have B:=aZ k;have G:k<bs.length:=by omega
 have A:(k:Int)<(bs.length:Int):=by omega
 have P:=z k f;have j:=hp k f;obtain⟨c,V⟩:=oX p[k];have m:=OF f;rw[<-V] at P j m;have w3:=wS k;(iterate 10 (refine tk (bG t L M N q1 P hx (cA B G A v)) ?_;intro U Y O C));(have fs:=t;refine x9 (3) (by kernel_rfl) ?_;refine Rw ?_;(try clear fs));have E:(L1 p).take k++[(k,c)]<+:L1 p:=by rw[<-m];exact List.take_prefix _ _
 refine lA rfl (oI ((L1 p).take k) (k,c) rfl rfl rfl (by simp [qP]) T E Z rfl (λH' e=>?_) λH' e=>?_)
 ·rw[<-m] at e
  by_cases u:c.toNat<128
  ·have I:=nT ((c.toNat:Int)<128)
   refine tq (av t I) ?_;intro U Y O C;have:=j.1 u;exact K _ _ (.inr rfl) g (.inl (by rw[bK (by rw[vU];omega)] at e;exact e))
  ·have I:=nF ((c.toNat:Int)<128)
   have R:k+1<p.length:=by
    rcases fv (k+1) p.length with h|h
    ·exact h
    ·exact absurd (j.2 (by omega)) u
   refine tn (bQ N I w3) ?_;exact⟨f,g,t,L,M,rfl,R,e⟩
 ·refine tq t ?_;intro U Y O C
  exact K _ _ (.inr rfl) g (.inr ⟨_,e⟩)
theorem SC {e:List (Nat×UInt8)}{x:Nat×UInt8}(h:(e++[x])<+:L1 p):∃h:e.length<p.length,x=(e.length,p[e.length]):=by
 have j:=h.length_le;rw[vU,aV,eE] at j;refine⟨by omega,?_⟩;have f:(L1 p)[e.length]?=some x:=by
  obtain⟨t,m⟩:=h;rw[<-m];simp
 have g:e.length<p.length:=by omega
 rw[az (by rw[vU];exact g)] at f;injection f with f
 rw[<-f];simp [L1,List.getD,g]
theorem Ye (f r:List UInt8)(n:Nat)(hn:n<18446744073709551616)(hl:(f++(put n++r)).length<=140737488351232):aN prog 164 [.seq 1 ((f++(put n++r)).map bD),i64 f.length] .none λd _=>d=.eO [.val (.int .u64 n),i64 (f.length+(put n).length:Nat),i64 0]:=by
 have c9:=eX n hn;have am:=P4 10 n (by omega) hn;obtain⟨bs,hB⟩:=oX (f++(put n++r));have bq:List.drop f.length (bs.map bD)=(put n++r).map bD:=by rw[hB,bI];exact List.drop_left' (aS _)
 have c7:bs.length=f.length+((put n).length+r.length):=by rw[hB,aV,aV]
 have ak:(bs.map bD).length=bs.length:=aS _;rw[<-hB] at hl ⊢;clear hB;have it:=LZ (put n) r (by rw[aV];omega) (λk h=>(am k h).1) (by omega);have p1:=nF ((f.length:Int)<0);have p2:=nF ((bs.length:Int)<(f.length:Int));have hx:(f.length:Int).toNat=f.length:=aX _;refine lH _ _ func164 rfl rfl ntmps164 results164 (by simp) λw0 g0 Q aB=>?_;refine t0 ?_;intro U Y O C;intro b3 bm j ac m J u w;refine Y _ ?_;obtain⟨ap,ac⟩:=bF.1 ac;obtain⟨a5,J⟩:=bF.1 J;obtain⟨ar,J⟩:=bF.1 J;obtain⟨a7,w⟩:=bF.1 w;obtain⟨a6,w⟩:=bF.1 w;obtain⟨aw,w⟩:=bF.1 w;refine dZ 3 rfl (b:=b3) (by simp only[iN,uP];rw[aJ (Ne.symm aw),aJ (Ne.symm ar),aJ (Ne.symm ap),aK]) rfl ?_;simp only[St.ku,iN,fC,uP,oR,kC (Ne.symm aw),kC (Ne.symm ar),kC (Ne.symm ap),kX,iy bm,List.drop];refine tq (bQ p1 p2 ak) ?_;intro U Y O C;intro A z;refine Y _ ?_;obtain⟨aa,z⟩:=bF.1 z;obtain⟨a9,z⟩:=bF.1 z;obtain⟨a8,z⟩:=bF.1 z;obtain⟨H2,v⟩:=oX (((((aA.none.aU j (.row 153 0 1 [[.val (.int .u64 0)]])).aU m (.row 3 0 1 [[i64 0]])).aU u (.row 48 0 1 [[i64 0]])).aU A (.row 153 0 1 [[.val (.int .u64 0)]])));have g4:H2 j=some (.row 153 0 1 [[.val (.int .u64 0)]]):=by rw[v,aJ (Ne.symm a8),aJ (Ne.symm a6),aJ (Ne.symm a5),aK]
 have g5:H2 m=some (.row 3 0 1 [[i64 0]]):=by rw[v,aJ (Ne.symm a9),aJ (Ne.symm a7),aK]
 have g6:H2 u=some (.row 48 0 1 [[i64 0]]):=by rw[v,aJ (Ne.symm aa),aK]
 have g7:H2 A=some (.row 153 0 1 [[.val (.int .u64 0)]]):=by rw[v,aK]
 simp only[i64] at v;rw[<-v];clear v;refine tq (bQ hx ak bq) ?_;intro U Y O C;refine⟨by omega,by omega,(OE _ _).mono ?_⟩;rintro d _ ⟨rfl,rfl⟩;refine t0 ?_;intro U Y O C;refine iz (λs=>s.df=[]/\s.fr 3=.rp [i64 f.length]/\s.fr 4=.ep j 0 1 0 0/\s.fr 5=.ep m 0 1 0 0/\s.fr 6=.ep u 0 1 0 0/\s.fr 7=.ep A 0 1 0 0/\s.fr 21=.fn 307 [.rp [.seq 1 ((put n++r).map bD)]]/\s.H=H2) ⟨rfl,rfl,rfl,rfl,rfl,rfl,rfl,rfl⟩ ?_;rintro s ⟨ag,f3,I,R,S,T,bi,c1⟩;refine kZ rfl it bi (λ_ _=>trivial) (by simp) (λ_=>rfl) (λE g=>E.length<(put n).length/\g j=some (.row 153 0 1 [[.val (.int .u64 0)]])/\g m=some (.row 3 0 1 [[i64 0]])/\g u=some (.row 48 0 1 [[i64 0]])/\g A=some (.row 153 0 1 [[.val (.int .u64 ((n % 128 ^ E.length:Nat):Int))]])) (λe E g=>e=.ret/\g j=some (.row 153 0 1 [[.val (.int .u64 n)]])/\g m=some (.row 3 0 1 [[i64 (f.length+(put n).length:Nat)]])/\g u=some (.row 48 0 1 [[i64 0]])) ?_ ?_ ?_ ?_ ?_ ?_
 ·rintro E H1 H3 L ⟨h0,V,h2,h3,K⟩
  exact⟨h0,L _ _ V (by simp),L _ _ h2 (by simp),L _ _ h3 (by simp),L _ _ K (by simp)⟩
 ·rintro e E H1 H3 L ⟨h0,V,h2,h3⟩
  exact⟨h0,L _ _ V (by simp),L _ _ h2 (by simp),L _ _ h3 (by simp)⟩
 ·rw[c1]
  exact⟨by show 0<_;omega,g4,g5,g6,by rw[g7];simp⟩
 ·rintro l w1 E x g o g1 bb ⟨c3,K,h5,h6,h7⟩ al br
  obtain⟨hk,rfl⟩:=SC bb;obtain⟨k,Z⟩:∃k,E.length=k:=⟨_,rfl⟩;obtain⟨a1,a2,a3,a4⟩:=am E.length hk;obtain⟨c,hc⟩:=oX ((put n)[E.length]);rw[<-hc] at a1 a2 a3 ⊢;simp only[Z] at hk a1 a2 a3 a4 hc c3 h7 ⊢;rw[gyD,T4];refine tq (cw cR cO cE au ag) ?_;intro U Y O C;simp only[cF];refine⟨rfl,jU _,λw2 y g2=>?_⟩;have ne:∀b t e,g b=some (.row t 0 1 e)->b≠l:=λb t e h h2=>by rw[h2,br] at h;cases h
  have r4:=(aJ (x:=.obj y) (ne _ _ _ K)).trans K;have r5:=(aJ (x:=.obj y) (ne _ _ _ h5)).trans h5;have r6:=(aJ (x:=.obj y) (ne _ _ _ h6)).trans h6;have r7:=(aJ (x:=.obj y) (ne _ _ _ h7)).trans h7;have bc:=jU (g.aU l (.obj y));have bf:k<=9:=by omega
  have c2:=Mk n k c bf hn a2;have bo:k=9->c.toNat<=1:=λe=>by
   subst e;have V:n / 128 ^ 9<=1:=by omega
   have h2:=a1.2 (by omega);omega
  have ad:c.toNat=0->k=0:=λe=>Decidable.byContradiction λc8=>by
   have bt:n=0:=Decidable.byContradiction λh=>a3 (by omega) e;rw[bt] at hk;simp [put,xP] at hk;omega
  refine nP ?_;refine bW ?_;refine nR (λs1=>s1.df=[]/\s1.fr 3=.rp [i64 f.length]/\s1.fr 4=.ep j 0 1 0 0/\s1.fr 5=.ep m 0 1 0 0/\s1.fr 6=.ep u 0 1 0 0/\s1.fr 7=.ep A 0 1 0 0/\s1.fr 8=i64 k/\s1.fr 9=.val (.int .u8 (c.toNat:Int))/\s1.H=g.aU l (.obj y)) ?_ ?_
  ·rcases fv k 9 with hk9|hk9
   ·have N:=nF ((k:Int)=9)
    rcases wO c.toNat with e0|e0
    ·have q2:=nT ((c.toNat:Int)=0)
     have q3:((0:Int)<(k:Int))=False:=aI (by have:=ad e0;omega);refine tn (ej cR cO cE au N q2 q3) ?_;exact⟨rfl,f3,I,R,S,T,rfl,rfl,rfl⟩
    ·have q2:=nF ((c.toNat:Int)=0)
     refine tn (eP cR cO cE au N q2) ?_;exact⟨rfl,f3,I,R,S,T,rfl,rfl,rfl⟩
   ·have N:=nT ((k:Int)=9)
    have q2:((c.toNat:Int)=0)=False:=aI λh=>by have:=ad (by omega);omega
    have q3:((1:Int)<(c.toNat:Int))=False:=aI (by have:=bo (by omega);omega);refine tn (ej cR cO cE au N q2 q3) ?_;exact⟨rfl,f3,I,R,S,T,rfl,rfl,rfl⟩
  clear f3 I R S T;rintro s1 ⟨e1,f3,I,R,S,T,f8,f9,e2⟩;have be:=Vc c;refine bW ?_;refine wE (λ_=>false) (λ_=>false) (λ_ _ _ _=>False) (λ_ _ _ _ _=>False) λU Y=>?_;have fs:=And.intro T (And.intro f8 (And.intro f9 (And.intro e2 (And.intro r7 (And.intro be c2)))));refine uj ?_;refine nx ?_;(try clear fs);refine⟨by rw[aP (by omega)];omega,Y _ ?_⟩;have c4:∀H x,(aA.aU H A x) j=H j:=λ_ _=>aJ (Ne.symm a8);have c5:∀H x,(aA.aU H A x) m=H m:=λ_ _=>aJ (Ne.symm a9);have c6:∀H x,(aA.aU H A x) u=H u:=λ_ _=>aJ (Ne.symm aa);have b2:∀H x,(aA.aU H j x) m=H m:=λ_ _=>aJ a5;have b9:∀H x,(aA.aU H j x) u=H u:=λ_ _=>aJ a6;have ba:∀H x,(aA.aU H m x) u=H u:=λ_ _=>aJ a7;have b1:∀H x,(aA.aU H u x) j=H j:=λ_ _=>aJ (Ne.symm a6);have b8:∀H x,(aA.aU H u x) m=H m:=λ_ _=>aJ (Ne.symm a7);have b0:∀H x,(aA.aU H m x) j=H j:=λ_ _=>aJ (Ne.symm a5);have P:=bc.row (x:=.row 153 0 1 [[.val (.int .u64 ((n % 128 ^ (k+1):Nat):Int))]]) r7 (by simp);obtain⟨G,B⟩:=oX ((g.aU l (.obj y)).aU A (.row 153 0 1 [[.val (.int .u64 ((n % 128 ^ (k+1):Nat):Int))]]));have z4:G j=some (.row 153 0 1 [[.val (.int .u64 0)]]):=by rw[B,c4];exact r4
  have z5:G m=some (.row 3 0 1 [[i64 0]]):=by rw[B,c5];exact r5
  have z6:G u=some (.row 48 0 1 [[i64 0]]):=by rw[B,c6];exact r6
  have z7:G A=some (.row 153 0 1 [[.val (.int .u64 ((n % 128 ^ (k+1):Nat):Int))]]):=by rw[B];exact aK _ _ _
  rw[<-B] at P ⊢;by_cases ae:c.toNat<128
  ·have N:=nT ((c.toNat:Int)<128)
   have a0:k+1=(put n).length:=a1.1 ae;have c0:n % 128 ^ (k+1)=n:=zP (a4 a0);have w3:IntKind.i64.wrap (IntKind.i64.wrap ((f.length:Int)+(k:Int))+1)=((f.length+(put n).length:Nat):Int):=by rw[aP (x:=(f.length:Int)+(k:Int)) (by omega),aP (by omega)];omega
   rw[c0] at z7;have ab:gE (g.aU l (.obj y)) (G.del A):=λc o e=>by
    have h:=P c o e;rw[bL (λe2=>by rw[e2,z7] at h;cases h)];exact h
   refine tq (av f9 N) ?_;intro U Y O C;refine dZ 7 T z7 rfl ?_;simp only[St.ku,iN,fS,fC,eL,List.drop];have y4:=(bL (H:=G) (Ne.symm a8)).trans z4;have y5:=(bL (H:=G) (Ne.symm a9)).trans z5;have y6:=(bL (H:=G) (Ne.symm aa)).trans z6;obtain⟨H6,bl⟩:=oX (G.del A);rw[<-bl] at y4 y5 y6 ab ⊢;refine wE (λt=>decide (t=some 48\/t=some 49)) (λ_=>false) (λ_ _ _ _=>False) (λ_ _ _ _ _=>False) λU Y=>?_;have fs:=And.intro f3 (And.intro I (And.intro R (And.intro S (And.intro f8 (And.intro y4 (And.intro y5 (And.intro y6 (And.intro b2 (And.intro b9 (And.intro ba (And.intro b0 (And.intro b1 (And.intro b8 w3)))))))))))));refine uj ?_;refine nx ?_;(try clear fs);rw[cF];refine zZ ?_;simp only[fL,eU,fW];exact⟨e1,((ab.row (x:=.row 153 0 1 [[.val (.int .u64 n)]]) y4 (by simp)).row (x:=.row 3 0 1 [[i64 (f.length+(put n).length:Nat)]]) ((b2 _ _).trans y5) (by simp)).row ((ba _ _).trans ((b9 _ _).trans y6)) (by simp),trivial,(b1 _ _).trans ((b0 _ _).trans (aK _ _ _)),(b8 _ _).trans (aK _ _ _),aK _ _ _⟩
  ·have N:=nF ((c.toNat:Int)<128)
   have a0:k+1<(put n).length:=by
    rcases fv (k+1) (put n).length with h|h
    ·exact h
    ·exact absurd (a1.2 (by omega)) ae
   refine tq (av f9 N) ?_;intro U Y O C;simp only[fK,cp];exact⟨e1,P,by rw[aV,Z];exact a0,z4,z5,z6,by rw[aV,Z];exact z7⟩
 ·rintro g M ⟨V,_⟩ al hD bk
  rw[vU] at V;exact absurd V (Nat.lt_irrefl _)
 ·rintro e c E g M hj ⟨rfl,K,h5,h6⟩ al hD bk
  have m4:j≠M:=λe=>by rw[e,hD] at K;cases K
  have m5:m≠M:=λe=>by rw[e,hD] at h5;cases h5
  have m6:u≠M:=λe=>by rw[e,hD] at h6;cases h6
  rw[mK,ag];refine eG I ?_;refine aB _ _ (.inr rfl) ?_ ?_
  ·refine eG I ?_
   exact Ql hD
  ·rw[cE,sP]
   simp (maxSteps:=4000000) only[vX,vB,vT,vZ,ij,fh,Fp,yk,AX,gV,fE,fj,↓iR,yb,cU,DJ,ze,By,oi,od,pn,po,ki,j8,kh,ic,D.nilPtr,D.iM,D.iF,fH,Bj,CE,wX,gy,jw,fieldsOf,gU,B6,B7,B8,B9,sL,BT,D.cells,jx,DE,DB,pv,eK,eH,B3,BR,jd,EC,rS,Be,gP,TD.gX,TD.agg,Eo,rU,oe,FI,nZ,pY,pX,Ba,B5,mF,pZ,dR,eT,Value.oneCell',iX,iV,gp,reduceCtorEq,kY,iZ,dN,dY,↓reduceIte,Nat.reduceEqDiff,Int.reduceLE,Int.reduceLT,Int.reduceNeg,Int.reduceToNat,Nat.reduceAdd,Nat.reduceMul,Nat.reduceLeDiff,Nat.reduceMod,Nat.reduceSub,Int.reduceEq,Int.reduceNe,Int.reduceAdd,Int.reduceSub,Int.reduceMul,iW,cR,cO,cE,au,cF,fW,cp,eU,fK,fL,fQ,fR,fP,i64,I,R,S,aJ m4,aJ m5,aJ m6,K,h5,h6,i64];exact⟨_,aF _⟩
structure zV (bs:List UInt8) (a n b:Nat):Prop where
 ex:∃pre r,bs=pre++(put n++r)/\pre.length=a/\a+(put n).length=b
 lt:n<18446744073709551616
theorem zV.le (h:zV bs a n b):a<b/\b<=bs.length:=by
 obtain⟨g,r,e,j,m⟩:=h.ex;have:=eX n h.lt;have f:=ai List.length e;rw[aV,aV] at f;omega
theorem OC (h:zV bs a n b)(H:aA)(hl:bs.length<=140737488351232):aN prog 164 [.seq 1 (bs.map bD),i64 a] H λd H'=>d=.eO [.val (.int .u64 n),i64 b,i64 0]/\H=H':=by
 obtain⟨e,r,rfl,rfl,rfl⟩:=h.ex;exact qf (Ye e r n h.lt hl) rfl (MM (iU _ _) (iU _ _))
theorem Gv {Q:Exit->St->Prop}(H0:aA)(hd:Es H0 s.H)(hk:∀w,eF w s.H->eF w H0)(h:W cx c Q (s.cJ H0)):W cx c Q s:=λa w m=>h a w (m.go (nE hd w) (hk w m.H))
theorem Cb {w:World}(e:eF w H'){j:Type}{f g:j->D}:∀{l:List j}{k:Nat},(∀x∈l,uq H0 H' (f x) (g x))->cK w H'.others b 1 k (l.map λx=>[f x])->cK w H0.others b 1 k (l.map λx=>[g x])
 |[],k,_,_=>by simp [cK]
 |x::l,k,hf,h=>by
  simp only[cC,cK,bU] at h ⊢;obtain⟨h1,⟨⟨u,h2,h3,h4⟩,_⟩,h5⟩:=h;exact⟨rfl,⟨⟨u,h2,h3,hf x (by simp) w u e h4⟩,trivial⟩,Cb e (λy m=>hf y (dH _ m)) h5⟩
theorem Hw (H:aA)(b:Nat)(x y:cY):(H.aU b x).others=(H.aU b y).others:=by
 funext c;unfold aA.others;by_cases e:c=b
 ·rw[e,aK,aK];simp
 ·rw[aJ e,aJ e]
theorem Mh {cx:Cx}{c:Code}{Q:Exit->St->Prop}(H:aA){u:Type}{f:u->D}(g:u->D){l:List u}(v:H.le s.H)(h0:H b=none)(hb:s.H b=some (.row ty o 1 (l.map λx=>[f x])))
  (hf:∀x∈l,uq (H.aU b (.row ty o 1 (l.map λx=>[f x]))) s.H (f x) (g x)) (h:W cx c Q (s.cJ (H.aU b (.row ty o 1 (l.map λx=>[g x]))))):W cx c Q s:=by
 have m:∀x,Es (H.aU b x) s.H:=λx c j=>by
  have t:c≠b:=λe=>by rw[e,hb] at j;cases j
  rw[aJ t];exact gA v j
 refine Gv _ (m _) (λw r c x j=>?_) h;by_cases e:c=b
 ·subst e
  rw[aK] at j;injection j with j
  subst j;obtain⟨cs,A,B,E,z,G⟩:=r _ _ hb;refine⟨cs,A,B,E,by rw[aS] at z ⊢;exact z,?_⟩;rw[Hw H c _ (.row ty o 1 (l.map λx=>[f x]))];exact Cb r hf G
 ·rw[aJ e] at j
  exact(nE (m _) w).jb rfl (r c x (v _ _ j))
theorem yC (h:H b=some x):(H.aU b y).others=H.others:=by
 funext c;unfold aA.others;by_cases e:c=b
 ·rw[e,aK,h];simp
 ·rw[aJ e]
theorem KZ {Q:Exit->St->Prop}(k:Nat)(hb:s.H b=some (.row ty o sz els))(h:W cx c Q (s.cJ (s.H.aU b (.row ty o sz (els.take k))))):W cx c Q s:=by
 have j:Es (s.H.aU b (.row ty o sz (els.take k))) s.H:=λc f=>by rw[aJ (λe=>by rw[e,hb] at f;cases f)];exact f
 refine Gv _ j (λw g c x f=>?_) h;by_cases e:c=b
 ·subst e
  rw[aK] at f;injection f with f
  subst f;obtain⟨cs,m,r,t,v,u⟩:=g _ _ hb;refine⟨cs,m,r,t,?_,?_⟩
  ·have:(els.take k).length * sz<=els.length * sz:=jl _ (by rw[bX];omega)
   omega
  ·rw[yC hb];exact ko u k
 ·rw[aJ e] at f
  exact(nE j w).jb rfl (g c x f)
theorem RL {Q:Exit->St->Prop}{e:TypeId}{ob:Option Nat}(t:Nat)(j:H0.le s.H)(hg:Gl H0 e sz els (s.fr t) s.H ob)(h:∀H',H0.le H'->(∀b z,s.H b=some z->ob≠some b->H' b=some z)->W cx c Q ((s.cJ H').put (some t) (.seq sz els))):W cx c Q s:=by
 rcases hg with⟨_,f,rfl⟩|⟨r,o,rfl,f,u,A⟩
 ·exact RK t (.seq sz []) (λw v m=>by rw[f] at m;exact yo m) (h s.H j λ_ _ h _=>h)
 ·refine ux t f A (by omega) ?_
  have:=h (s.H.del r) (aA.AW j u) λb z B g=>by rw[bL (λe=>g (by rw[e]))];exact B
  unfold St.cm;rwa[dj,dI]
theorem sB (els:List (List D))(H:aA)(hl:els.length<=140737488000000):aN prog 43 [.seq 1 els] H λd H'=>d=.seq 1 els/\H=H':=by
 refine aq (K:=λd=>d=.seq 1 els) ?_;refine dO func43 ntmps43 results43 λA z Q m=>?_;refine t0 ?_;intro U Y O C;intro b t;refine Y _ ?_;cases b with
 |true=>
  refine u0 m ?_
  have u:els=[]:=eC λe=>Bool.noConfusion (t λr=>e (cy r))
  exact⟨_,aF _,aF _,_,u▸iq,rfl⟩
 |false=>
  refine t0 ?_;intro U Y O C
  intro j g
  refine ax (e:=5) qL rfl qL rfl QP rfl (by decide) (aQ (aF _) g) (.inr ⟨j,0,rfl,rfl,g,aK _ _ _⟩:Gl H 5 1 [] (.os j 0 1 0 0) (H.aU j (.row 5 0 1 [])) (some j)) (new:=els) (by exact⟨rfl,rfl⟩) (by rw[dX];show(_+_) * 1<=_;omega) λd w v h f _=>?_
  refine u0 m ?_
  rw[cz] at h
  exact⟨_,aF _,f,_,da f h,rfl⟩
theorem Vy {d:D}{ob:Option Nat}(f:H0.le H)(hg:Gl H0 5 1 els d H ob)(hl:els.length<=140737488000000):aN prog 43 [d] H λg H'=>g=.seq 1 els/\H0=H':=by
 rcases hg with⟨_,rfl,rfl⟩|⟨c,o,_,rfl,h,j⟩
 ·refine((sB [] H (by simp)).imp (ds:=[.val (.slice none 0 0)]) ⟨fO,trivial⟩).post ?_
  rintro g _ ⟨rfl,rfl⟩;exact⟨_,H0,f,aL f,rfl,rfl⟩
 ·refine aN.aCg (k:=0) (n:=els.length) j (by omega) ?_
  rw[dj,dI];have e:=aA.AW f h;refine(sB els (H.del c) hl).post ?_;rintro g _ ⟨rfl,rfl⟩;exact⟨_,H0,e,aL e,rfl,rfl⟩
def WS (H0:aA) (b:Nat) (l:List UInt8) (H:aA):Prop:=H0 b=none/\H0.le H/\∃d e,H b=some (.row 230 0 1 [[d]])/\Gl H0 5 1 (l.map bD) d H e/\e≠some b
theorem sO (H:aA):aN prog 72 [] H λd H'=>∃b,d=.ep b 0 1 0 0/\WS H b [] H':=by
 refine dO func72 ntmps72 results72 λh g Q f=>?_;refine t0 ?_;intro U Y O C;intro b e;refine Y _ ?_;refine u0 f ?_;exact⟨_,aF _,b,rfl,e,aQ (aF _) e,_,none,aK _ _ _,eB _ _ _ _,by simp⟩
theorem mV (c:UInt8)(h:WS H0 b l H)(hl:l.length<=1000000000):aN prog 157 [.ep b 0 1 0 0,.val (.int .u8 (c.toNat:Int))] H λd H'=>WS H0 b (l++[c]) H':=by
 obtain⟨u,A,d,L,v,G,m⟩:=h;refine dO func157 ntmps157 results157 λM K Q z=>?_;refine tq v ?_;intro U Y O C;refine ax (e:=5) qL rfl qL rfl QP rfl (by decide) A G (new:=[bD c]) (by exact⟨rfl,rfl⟩) (by rw[aS];show(_+1) * 1<=_;omega) λB J t g j r=>?_;obtain⟨I,w⟩:=r b _ v m;have f:=g.cells;simp only[D.cells] at f;refine eV (av I f) ?_;refine nx ?_;refine u0 z ?_;exact⟨_,aF _,u,aQ j u,B,t,aK _ _ _,by rw[bI];exact g.cM λc E=>aJ λe=>w (by rw[E,e]),w⟩
theorem wB (n:Nat)(hn:n<18446744073709551616)(h:WS H0 b l H)(hl:l.length<=1000000000):aN prog 88 [.ep b 0 1 0 0,.val (.int .u64 n)] H λd H'=>WS H0 b (l++put n) H':=by
 obtain⟨w,G,d,R,r,K,t⟩:=h;have P:=eX n hn;refine dO func88 ntmps88 results88 λS N Q B=>?_;refine tq r ?_;intro U Y O C;refine wE (λ_=>false) (λ_=>false) (λ_ _ d A=>A=.none/\d=.seq 1 ((put n).map bD)) (λ_ _ _ _ _=>False) λU Y=>?_;have fs:=r;refine uj ?_;refine nx ?_;(try clear fs);refine⟨an λj E=>Uu n j hn,?_⟩;refine ax (e:=5) qL rfl qL rfl QP rfl (by decide) G K (new:=(put n).map bD) (by exact⟨rfl,rfl⟩) (by rw[aS,aS];show(_+_) * 1<=_;omega) λI M v g m u=>?_;obtain⟨L,z⟩:=u b _ r t;have f:=g.cells;simp only[D.cells] at f;refine eV (av L f) ?_;refine nx ?_;refine u0 B ?_;exact⟨_,aF _,w,aQ m w,I,v,aK _ _ _,by rw[bI];exact g.cM λc J=>aJ λe=>z (by rw[J,e]),z⟩
theorem Xh (s:List UInt8)(h:WS H0 b l H)(hl:(l++(put s.length++s)).length<=1000000000):aN prog 89 [.ep b 0 1 0 0,.val (.string (dg s))] H λd H'=>WS H0 b (l++(put s.length++s)) H':=by
 rw[aV,aV] at hl;have I:IntKind.u64.wrap (s.length:Int)=(s.length:Int):=iP (by omega);refine dO func89 ntmps89 results89 λR N Q z=>?_;refine tq (av gx I) ?_;intro U Y O C;refine(wB s.length (by omega) h (by omega)).mono ?_;rintro d K ⟨u,A,M,P,v,G,m⟩;refine tq (av v gM) ?_;intro U Y O C;refine ax (e:=5) qL rfl G5 rfl QP rfl (by decide) A G (new:=s.map bD) (by exact⟨rfl,rfl⟩) (by rw[aS,aS,aV];show(_+_) * 1<=_;omega) λB L t g j r=>?_;obtain⟨J,w⟩:=r b _ v m;have f:=g.cells;simp only[D.cells] at f;refine eV (av J f) ?_;refine nx ?_;refine u0 z ?_;exact⟨_,aF _,u,aQ j u,B,t,aK _ _ _,by rw[<-bE,bI];exact g.cM λc E=>aJ λe=>w (by rw[E,e]),w⟩
theorem BM (h:WS H0 b l H)(hl:l.length<=1000000000):aN prog 82 [.ep b 0 1 0 0] H λd H'=>d=.seq 1 (l.map bD)/\H0=H':=by
 obtain⟨u,f,d,v,g,j,m⟩:=h;refine dO func82 ntmps82 results82 λw t Q e=>?_;refine tq g ?_;intro U Y O C;refine(Vy f j (by rw[aS];omega)).mono ?_;rintro r _ ⟨rfl,rfl⟩;refine u0 e ?_;exact⟨_,aF _,rfl⟩
theorem Wq {c:Nat}(h2:H a=none)(h3:H c=none):H.le ((((H.aU a x).aU c y).del a).del c):=λb z f=>by
 have g:b≠a:=λe=>by rw[e,h2] at f;cases f
 have h:b≠c:=λe=>by rw[e,h3] at f;cases f
 rw[bL h,bL g,aJ h,aJ g];exact f
theorem Wn {c:Nat}(h2:H a=none)(h3:H c=none)(hn:c≠a):(H.aU c y).le (((H.aU a x).aU c y).del a):=λb z f=>by
 by_cases e:b=c
 ·subst e
  rw[aK] at f;rw[bL hn,aK];exact f
 ·rw[aJ e] at f
  have g:b≠a:=λe=>by rw[e,h2] at f;cases f
  rw[bL g,aJ e,aJ g];exact f
def Xv (t u:Nat) (P:Prop):Prop:=P
theorem WU {Q:Exit->St->Prop}{t u:Nat}(ht:s.fr t=.ep b o sz i k)(hb:s.H b=some (.row ty o sz els))(hi:els[i]?=some el)(h:AtT u (W cx c Q (s.ku t b k el))):Xv t u (W cx c Q s):=dZ t ht hb hi h
theorem uB {P Q:Prop}{H:aA}{a b:Nat}{x:cY}(t u:Nat) (ha:H a=Option.none) (hb:(H.aU a x) b=Option.none) (hq:Q) (h:H a=Option.none->(H.aU a x) b=Option.none->Q->Xv t u P:=by
 intro ha hb h;obtain⟨Yz,hFz⟩:=bF.1 hb;refine WU rfl ((aJ Yz.symm).trans (aK _ _ _)) rfl ?_;refine Ny rfl ((bL Yz).trans (aK _ _ _)) rfl ?_;refine lB _ (Wq ha hFz) ?_;simp only[St.ku,List.drop];exact h):P:=h ha hb hq
theorem Yc {P Q:Prop}{H:aA}{a b:Nat}{x:cY}(t:Nat) (ha:H a=Option.none) (hb:(H.aU a x) b=Option.none) (hq:Q) (h:H a=Option.none->(H.aU a x) b=Option.none->Q->AtT t P:=by
 intro ha hb h;obtain⟨Yz,hFz⟩:=bF.1 hb;refine Ny rfl ((aJ Yz.symm).trans (aK _ _ _)) rfl ?_;refine lB _ (Wn ha hFz Yz) ?_;simp only[St.ku,List.drop];exact h):P:=h ha hb hq
def jc (l:List UInt8) (a:Nat):cY:=.row 282 0 3 [[.seq 1 (l.map bD),i64 a,i64 0]]
theorem sN (l:List UInt8)(H:aA)(hl:l.length<=1000000000):aN prog 118 [.seq 1 (l.map bD)] H λd H'=>∃r,H r=none/\d=.ep r 0 3 0 0/\H'=H.aU r (jc l 0):=by
 refine dO func118 ntmps118 results118 λh g Q e=>?_;refine t0 ?_;intro U Y O C;refine(sB _ _ (by rw[aS];omega)).mono ?_;rintro d _ ⟨rfl,rfl⟩;refine t0 ?_;intro U Y O C;intro r f;refine Y _ ?_;refine u0 e ?_;exact⟨_,aF _,r,f,rfl,rfl⟩
theorem TU (l:List UInt8)(a to r:Nat)(H:aA)(g:FuncId)(e:List D)(f:D)(hb:H r=some (jc l a))(hf:aN prog g e H λd H'=>d=.eO [f,i64 to,i64 0]/\H=H'):aN prog 193 [.ep r 0 3 0 0,.fn g e] H λd H'=>d=f/\H'=H.aU r (jc l to):=by
 unfold jc at hb;refine dO func193 ntmps193 results193 λm j Q h=>?_;refine tq hb ?_;intro U Y O C;refine hf.q ?_;refine ur h hb trivial ?_;exact⟨_,aF _,rfl⟩
theorem TW (l:List UInt8)(a to r:Nat)(H:aA)(g:FuncId)(e:List D)(f:D)(hb:H r=some (jc l a))(hf:aN prog g e H λd H'=>d=.eO [f,i64 to,i64 0]/\H=H'):aN prog 266 [.ep r 0 3 0 0,.fn g e] H λd H'=>d=f/\H'=H.aU r (jc l to):=by
 unfold jc at hb;refine dO func266 ntmps266 results266 λm j Q h=>?_;refine tq hb ?_;intro U Y O C;refine hf.q ?_;refine ur h hb trivial ?_;exact⟨_,aF _,rfl⟩
theorem TT (l:List UInt8)(a to r:Nat)(H:aA)(g:FuncId)(e:List D)(f:D)(hb:H r=some (jc l a))(hf:aN prog g e H λd H'=>d=.eO [f,i64 to,i64 0]/\H=H'):aN prog 264 [.ep r 0 3 0 0,.fn g e] H λd H'=>d=f/\H'=H.aU r (jc l to):=by
 unfold jc at hb;refine dO func264 ntmps264 results264 λm j Q h=>?_;refine tq hb ?_;intro U Y O C;refine hf.q ?_;refine ur h hb trivial ?_;exact⟨_,aF _,rfl⟩
theorem TV (l:List UInt8)(a to r:Nat)(H:aA)(g:FuncId)(e:List D)(f:D)(hb:H r=some (jc l a))(hf:aN prog g e H λd H'=>d=.eO [f,i64 to,i64 0]/\H=H'):aN prog 262 [.ep r 0 3 0 0,.fn g e] H λd H'=>d=f/\H'=H.aU r (jc l to):=by
 unfold jc at hb;refine dO func262 ntmps262 results262 λm j Q h=>?_;refine tq hb ?_;intro U Y O C;refine hf.q ?_;refine ur h hb trivial ?_;exact⟨_,aF _,rfl⟩
theorem ou (h:zV l a n b)(r:Nat)(H:aA)(hb:H r=some (jc l a))(hl:l.length<=1000000000)(hm:n<=aEY)(z:aEY<=9223372036854775807)(hn:n+b<=l.length):aN prog 119 [.ep r 0 3 0 0,i64 aEY] H λd H'=>d=i64 n/\H'=H.aU r (jc l b):=by
 have w:=h.lt;have M:=h.le;have m:=lm bD l;have e:=hb;unfold jc at e;have u:aN prog 194 [.rp [.ep r 0 3 0 0],.rp [i64 aEY]] H λd H'=>d=.eO [i64 n,i64 b,i64 0]/\H=H':=by
  have B:=nF ((aEY:Int)<0);have J:IntKind.u64.wrap (aEY:Int)=(aEY:Int):=iP (by omega);have E:=nF ((aEY:Int)<(n:Int));have K:IntKind.u64.wrap (IntKind.i64.wrap ((l.length:Int) - (b:Int)))=(l.length:Int) - b:=by rw[aP (by omega),iP (by omega)]
  have G:=nF ((l.length:Int) - (b:Int)<(n:Int));have L:IntKind.i64.wrap (n:Int)=(n:Int):=aP (by omega);refine dO func194 ntmps194 results194 λI v Q g=>?_;refine t0 ?_;intro U Y O C;refine dE (λ_ _ d A=>A=.none/\d=.eO [.val (.int .u64 n),i64 b,i64 0]) λU Y=>?_;refine dst e ?_;intro U Y O C;refine⟨an λf t=>OC h f (by omega),?_⟩;refine dst e ?_;intro U Y O C;refine ur g (bG e m B J E K G L) trivial ?_;exact⟨_,aF _,rfl⟩
 refine dO func119 ntmps119 results119 λI v Q g=>?_;refine t0 ?_;intro U Y O C;intro N e P j;refine Y _ ?_;refine uB 2 3 e j ?_;refine t0 ?_;intro U Y O C;refine(TU l a b r _ _ _ (i64 n) hb u).mono ?_;rintro d _ ⟨rfl,rfl⟩;refine u0 g ?_;exact⟨_,aF _,rfl⟩
theorem Xd (h:zV l a n b)(r:Nat)(H:aA)(hb:H r=some (jc l a))(hl:l.length<=1000000000)(hm:n<=aEY):aN prog 200 [.ep r 0 3 0 0,.val (.int .u64 aEY)] H λd H'=>d=.val (.int .u64 n)/\H'=H.aU r (jc l b):=by
 have e:=hb;unfold jc at e;have t:aN prog 267 [.rp [.ep r 0 3 0 0],.rp [.val (.int .u64 aEY)]] H λd H'=>d=.eO [.val (.int .u64 n),i64 b,i64 0]/\H=H':=by
  have v:=nF ((aEY:Int)<(n:Int));refine dO func267 ntmps267 results267 λw u Q g=>?_;refine t0 ?_;intro U Y O C;refine dE (λ_ _ d A=>A=.none/\d=.eO [.val (.int .u64 n),i64 b,i64 0]) λU Y=>?_;refine dst e ?_;intro U Y O C;refine⟨an λf m=>OC h f (by omega),?_⟩;refine dst e ?_;intro U Y O C;refine ur g v trivial ?_;exact⟨_,aF _,rfl⟩
 refine dO func200 ntmps200 results200 λw u Q g=>?_;refine t0 ?_;intro U Y O C;intro z e B j;refine Y _ ?_;refine uB 2 3 e j ?_;refine t0 ?_;intro U Y O C;refine(TW l a b r _ _ _ (.val (.int .u64 n)) hb t).mono ?_;rintro d _ ⟨rfl,rfl⟩;refine u0 g ?_;exact⟨_,aF _,rfl⟩
theorem Vm (ha:a<l.length)(r:Nat)(H:aA)(hb:H r=some (jc l a))(hl:l.length<=1000000000):aN prog 198 [.ep r 0 3 0 0] H λd H'=>d=.val (.int .u8 (l[a].toNat:Int))/\H'=H.aU r (jc l (a+1)):=by
 have e:=hb;unfold jc at e;have f:=lm bD l;have m:aN prog 265 [.rp [.ep r 0 3 0 0]] H λd H'=>d=.eO [.val (.int .u8 (l[a].toNat:Int)),i64 (a+1:Nat),i64 0]/\H=H':=by
  have w:=nF ((a:Int)=(l.length:Int));have u:(l.map bD)[a]?=some [.val (.int .u8 (l[a].toNat:Int))]:=by rw[bg,az ha];rfl
  have v:=aX a;have h:=aZ a;have j:(a:Int)<(l.length:Int):=by omega
  have A:=wS a;refine dO func265 ntmps265 results265 λz t Q g=>?_;refine t0 ?_;intro U Y O C;refine dE (λ_ _ _ _=>False) λU Y=>?_;refine dst (av e f) ?_;intro U Y O C;refine tq w ?_;intro U Y O C;refine dE (λ_ _ _ _=>False) λU Y=>?_;refine dst (bG e f u v h ha j A) ?_;intro U Y O C;refine u0 g ?_;exact⟨_,aF _,rfl⟩
 refine dO func198 ntmps198 results198 λz t Q g=>?_;refine t0 ?_;intro U Y O C;intro B e;refine Y _ ?_;refine cm 1 e ?_;refine t0 ?_;intro U Y O C;refine(TT l a (a+1) r _ _ _ (.val (.int .u8 (l[a].toNat:Int))) hb m).mono ?_;rintro d _ ⟨rfl,rfl⟩;refine u0 g ?_;exact⟨_,aF _,rfl⟩
theorem X2 (ha:a+n<=l.length)(r:Nat)(H:aA)(hb:H r=some (jc l a))(hl:l.length<=1000000000):aN prog 195 [.ep r 0 3 0 0,i64 n] H λd H'=>d=.seq 1 (((l.drop a).take n).map bD)/\H'=H.aU r (jc l (a+n)):=by
 have e:=hb;unfold jc at e;have f:=lm bD l;have w:aN prog 263 [.rp [i64 n],.rp [.ep r 0 3 0 0]] H λd H'=>d=.eO [.seq 1 (((l.drop a).take n).map bD),i64 (a+n:Nat),i64 0]/\H=H':=by
  have E:=nF ((n:Int)<0);have J:IntKind.i64.wrap ((l.length:Int) - (a:Int))=(l.length:Int) - a:=aP (by omega);have G:=nF ((l.length:Int) - (a:Int)<(n:Int));have u:IntKind.i64.wrap ((a:Int)+(n:Int))=((a+n:Nat):Int):=by rw[aP (by omega)];omega
  have B:=aX a;have t:((a+n:Nat):Int).toNat=a+n:=aX _;have j:List.drop a (List.take (a+n) (l.map bD))=((l.drop a).take n).map bD:=by rw[List.drop_take,Nat.add_sub_cancel_left,iK,List.map_drop]
  refine dO func263 ntmps263 results263 λI z Q h=>?_;refine tq E ?_;intro U Y O C;refine dE (λ_ _ _ _=>False) λU Y=>?_;refine dst (cA e f J G) ?_;intro U Y O C;refine t0 ?_;intro U Y O C;refine dE (λ_ _ d A=>A=.none/\d=.seq 1 (((l.drop a).take n).map bD)) λU Y=>?_;refine dst (eP e f u B t j) ?_;intro U Y O C;refine⟨by omega,by omega,by omega,an λg v=>sB _ g (by rw[aS,bX];omega),?_⟩;refine dst (av e u) ?_;intro U Y O C;refine u0 h ?_;exact⟨_,aF _,rfl⟩
 refine dO func195 ntmps195 results195 λI z Q h=>?_;refine t0 ?_;intro U Y O C;intro K e L m;refine Y _ ?_;refine uB 2 3 e m ?_;refine t0 ?_;intro U Y O C;refine(TV l a (a+n) r _ _ _ (.seq 1 (((l.drop a).take n).map bD)) hb w).mono ?_;rintro d _ ⟨rfl,rfl⟩;refine u0 h ?_;exact⟨_,aF _,rfl⟩
theorem ZV (h:zV l a n b)(r:Nat)(H:aA)(hb:H r=some (jc l a))(hl:l.length<=1000000000)(hm:n<=aEY)(f:aEY<=9223372036854775807)(hn:b+n<=l.length):aN prog 120 [.ep r 0 3 0 0,i64 aEY] H λd H'=>d=.val (.string (dg ((l.drop b).take n)))/\H'=H.aU r (jc l (b+n)):=by
 have e:=ru ((l.drop b).take n);refine dO func120 ntmps120 results120 λm j Q g=>?_;refine t0 ?_;intro U Y O C;refine(ou h r _ hb hl hm f (by omega)).mono ?_;rintro d _ ⟨rfl,rfl⟩;refine t0 ?_;intro U Y O C;refine(X2 hn r _ (aK _ _ _) hl).mono ?_;rintro d _ ⟨rfl,rfl⟩;refine ur g e trivial ?_;exact⟨_,aF _,rfl⟩
theorem JA (l:List UInt8)(a r:Nat)(H:aA)(hb:H r=some (jc l a)):aN prog 122 [.ep r 0 3 0 0] H λd H'=>d=i64 0/\H=H':=by
 unfold jc at hb;refine dO func122 ntmps122 results122 λg f Q e=>?_;refine ur e hb trivial ?_;exact⟨_,aF _,rfl⟩
theorem Nk (l:List UInt8)(r:Nat)(H:aA)(hb:H r=some (jc l l.length))(hl:l.length<=1000000000):aN prog 123 [.ep r 0 3 0 0] H λd H'=>d=i64 0/\H=H':=by
 have m:=JA l _ r H hb;have e:=hb;unfold jc at e;have h:=lm bD l;have u:IntKind.i64.wrap ((l.length:Int) - (l.length:Int))=0:=by rw[aP (by omega)];omega
 have g:aN prog 196 [.ep r 0 3 0 0] H λd H'=>d=i64 0/\H=H':=by
  refine dO func196 ntmps196 results196 λt j Q f=>?_;refine tq e ?_;intro U Y O C;refine dE (λ_ _ _ _=>False) λU Y=>?_;refine dst (bQ e h u) ?_;intro U Y O C;refine u0 f ?_;exact⟨_,aF _,rfl⟩
 refine dO func123 ntmps123 results123 λt j Q f=>?_;refine t0 ?_;intro U Y O C;refine m.qt ?_;intro U Y O C;refine g.q ?_;refine u0 f ?_;exact⟨_,aF _,rfl⟩
def ox (s:ByteArray):List UInt8:=put s.size++s.data.toList
def nD (l:List ByteArray):List UInt8:=put l.length++l.flatMap ox
theorem LJ {l:List ByteArray}(h:i<l.length):∃r,nD l=put l.length++(l.take i).flatMap ox++(ox l[i]++r)/\put l.length++(l.take (i+1)).flatMap ox=put l.length++(l.take i).flatMap ox++ox l[i]:=by
 refine⟨(l.drop (i+1)).flatMap ox,?_,?_⟩
 ·have e:l=l.take i++l[i]::l.drop (i+1):=by rw[qz,ga]
  have f:l.flatMap ox=(l.take i++l[i]::l.drop (i+1)).flatMap ox:=ai _ e;unfold nD;rw[f,gb,lz,bE]
 ·rw[bw h,gb,rA,bE]
theorem L5 (l:List ByteArray)(H:aA)(hl:(nD l).length<=1000000000)(P:l.length<=1000000000):aN prog 41 [fB l] H λd H'=>d=.seq 1 ((nD l).map bD)/\H=H':=by
 have m:=lm sD l;have S:IntKind.u64.wrap (l.length:Int)=(l.length:Int):=iP (by omega);refine dO func41 ntmps41 results41 λw0 g0 Q K=>?_;refine tq @fB.eq_1 ?_;intro U Y O C;refine(sO _).mono ?_;rintro d Z ⟨b,rfl,M⟩;refine tq (bQ @fB.eq_1 m S) ?_;intro U Y O C;refine(wB l.length (by omega) M (jY _)).mono ?_;rintro d H2 B;refine tn (av @fB.eq_1 m) ?_;refine aO l.length (λi s=>s.df=[]/\s.fr 3=.ep b 0 1 0 0/\s.fr 20=.seq 1 (l.map sD)/\s.fr 21=i64 l.length/\s.fr 22=i64 i/\WS H b (put l.length++(l.take i).flatMap ox) s.H) ⟨rfl,rfl,rfl,rfl,rfl,by rw[gK,nL,bz];exact B⟩ ?_;rintro i s hi ⟨u,z,f,g,h,j⟩;by_cases e:i<l.length
 case neg=>
  have I:=lF i l.length;rw[bK (by omega)] at j;refine tq (cw z f g h I) ?_;intro U Y O C;refine(BM (l:=nD l) j hl).q ?_;refine ur K trivial u ?_;exact⟨_,aF _,rfl⟩
 have L:(i:Int)<(l.length:Int):=by omega
 have I:=lT i l.length e;have T:=aX i;have A:=aZ i;have v:=fg e;have V:=wS i;obtain⟨r,w,G⟩:=LJ e;rw[G];obtain⟨t,J,R⟩:=zh l[i];have N:ox l[i]=put t.length++t:=by unfold ox;rw[J,gM,gx]
 rw[N] at w ⊢;rw[w] at hl;simp only[aV] at hl;rw[J] at v;refine tq (bG z f g h I m v (bQ T A e)) ?_;intro U Y O C;refine(Xh t j (by simp only[aV];omega)).mono ?_;rintro d H3 E;refine tn (cw z f g h V) ?_;exact⟨e,u,z,f,g,rfl,E⟩
def oA:ByteArray:=⟨#[102]⟩
theorem SA {el':List D}(hd:Es H H')(hb:H' b=some (.row ty o sz els))(h0:H b=none)(hi:els[i]?=some el)(hr:mz H (H'.del b) el el'):uq H H' (.ep b o sz i 0) (.rp el'):=λw v m A=>by
 have g:=Dg (k:=0) m hb hi A;rw[dj] at g;have h:eF w (H'.del b):=m.less (λc x j=>by
  by_cases e:c=b
  ·rw[e,lf] at j;cases j
  ·rwa[bL e] at j)
 simp only[D.is] at g ⊢;obtain⟨f,B,r,t,u,z⟩:=g;refine⟨f,B,r,?_,u,hr.at h z⟩;by_cases e:f=b
 ·rw[e];exact h0
 ·refine hd f ?_
  have:(H'.del b) f=none:=t;rwa[bL e] at this
theorem L4 (H:aA):aN prog 54 [.seq 1 ([1,1,102].map bD)] H λd H'=>d=.eO [fB [oA],i64 0]/\H=H':=by
 refine aq (K:=λd=>d=.eO [fB [oA],i64 0]) ?_;have x1:zV [1,1,102] 0 1 1:=⟨⟨[],[1,102],rfl,rfl,rfl⟩,by decide⟩;have x2:zV [1,1,102] 1 1 2:=⟨⟨[1],[102],rfl,rfl,rfl⟩,by decide⟩;have a2:eY oA=true:=by decide
 obtain⟨bs,R⟩:∃bs:List UInt8,bs=[1,1,102]:=⟨_,rfl⟩;have Z:bs.length=3:=by rw[R];rfl
 have hs:dg ((bs.drop 2).take 1)=oA:=by rw[R];rfl
 rw[<-R] at x1 x2 ⊢;clear R;refine dO func54 ntmps54 results54 λw0 g0 Q aB=>?_;refine t0 ?_;intro U Y O C;refine(sN bs _ (by omega)).mono ?_;rintro d _ ⟨r,hr,rfl,rfl⟩;refine t0 ?_;intro U Y O C;intro z a0;obtain⟨g,f⟩:=bF.1 a0;refine Y _ ?_;refine t0 ?_;intro U Y O C;refine(ou x1 r _ (by rw[aJ (Ne.symm g),aK]) (by omega) (by decide) (by decide) (by omega)).mono ?_;rintro d _ ⟨rfl,rfl⟩;refine tz ?_;refine aO 1 (λi s=>s.df=[]/\s.fr 4=.ep r 0 3 0 0/\s.fr 5=.ep z 0 1 0 0/\s.fr 14=i64 1/\s.fr 15=i64 i/\H.le s.H/\∃d v,s.H z=some (.row 132 0 1 [[d]])/\v≠some r/\v≠some z/\((i=0/\s.fr 6=bC ByteArray.empty/\s.H r=some (jc bs 1)/\Gl H 9 1 [] d s.H v)\/(i=1/\s.H r=some (jc bs 3)/\Gl H 9 1 [sD oA] d s.H v))) ⟨rfl,rfl,rfl,rfl,rfl,?_,.val (.slice none 0 0),none,?_,by simp,by simp,.inl ⟨rfl,rfl,aK _ _ _,eB _ _ _ _⟩⟩ ?_
 ·exact aQ (aQ (aQ (aF _) hr) f) hr
 ·exact(aJ g).trans (aK _ _ _)
 rintro i s hi ⟨G,u,m,h,j,P,dd,v,A,J,L,(⟨rfl,V,t,hg⟩|⟨rfl,t,hg⟩)⟩
 ·have t1:oA.toList=[102]:=jC [102]
  have t0:ByteArray.empty.toList=[]:=jC [];have e1:Op.bytesLess oA.toList ByteArray.empty.toList=false:=by rw[Go.Proofs.bytesLess_eq,t1,t0];decide
  have e3:(oA.toList=ByteArray.empty.toList)=False:=aI (by rw[t1,t0];decide);have e4:(false||false)=false:=rfl;refine tq (cw u m V h j) ?_;intro U Y O C;refine(ZV x2 r _ t (by omega) (by decide) (by decide) (by omega)).mono ?_;rw[hs];rintro d _ ⟨rfl,rfl⟩;refine tq (bQ u m V) ?_;intro U Y O C;refine(xG oA _ (by unfold cH;decide)).mono ?_;rintro d _ ⟨rfl,rfl⟩;rw[a2];refine nx ?_;refine tq (ej u m V @bC.eq_1 e1 e3 e4) ?_;intro U Y O C;refine(JA bs 3 r _ (aK _ _ _)).q ?_;have z2:(s.H.aU r (jc bs 3)) z=some (.row 132 0 1 [[dd]]):=by rw[aJ g];exact A
  have T:H.le (s.H.aU r (jc bs 3)):=aQ P hr;have a1:Gl H 9 1 [] dd (s.H.aU r (jc bs 3)) v:=hg.cM λc B=>aJ λe=>J (by rw[B,e]);refine tq (bQ u m z2) ?_;intro U Y O C;refine ax (e:=9) kR rfl kR rfl G5 rfl (by decide) T a1 (new:=[sD oA]) (by exact⟨rfl,rfl⟩) (by decide) λd' H6 a4 I S N=>?_;obtain⟨z3,M⟩:=N z _ z2 L;obtain⟨z4,a3⟩:=N r _ (aK _ _ _) J;have E:=I.cells;simp only[D.cells] at E;refine eV (av z3 E) ?_;refine nx ?_;refine tq j ?_;intro U Y O C;refine⟨Nat.zero_lt_one,G,u,m,h,rfl,aQ S f,_,a4,aK _ _ _,a3,M,.inr ⟨rfl,(aJ (Ne.symm g)).trans z4,?_⟩⟩;exact I.cM λc B=>aJ λe=>M (by rw[B,e])
 ·refine tq (cA u m h j) ?_;intro U Y O C
  refine(Nk bs r _ (by rw[Z];exact t) (by omega)).mono ?_;rintro d _ ⟨rfl,rfl⟩;refine ur aB m G ?_;have w:Es H s.H:=λk hk=>iY P hk;refine⟨_,aF _,P,.eO [fB [oA],i64 0],lI ⟨SA w A f rfl ⟨?_,trivial⟩,AM w,trivial⟩,rfl⟩;exact da (aA.AW P f) (hg.cM λc B=>bL λe=>L (by rw[B,e]))
end Go.Proofs.YtffgfafbffdgaaaGreatDoor
