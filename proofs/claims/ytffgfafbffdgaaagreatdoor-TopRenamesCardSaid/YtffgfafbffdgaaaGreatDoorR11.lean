/- Lemmas and contracts of functions, several texts in one. -/
import Derived.WalkKit
import Derived.Lib.BitFns
import Derived.Test.YtffgfafbffdgaaaGreatDoorR09
import Derived.Test.YtffgfafbffdgaaaGreatDoorR10
set_option maxRecDepth 100000
set_option maxHeartbeats 4000000
set_option linter.all false
namespace Go.Proofs.YtffgfafbffdgaaaGreatDoor
def xP:Nat->Nat->List UInt8
 |0,_=>[]
 |k+1,n=>if n<128 then [UInt8.ofNat n] else UInt8.ofNat (n % 128+128)::xP k (n / 128)
def put (n:Nat):List UInt8:=xP 10 n
theorem Lo (k:Nat):∀m n,n<128 ^ k->k<=m->0<k->xP k n=xP m n:=by
 induction k with
 |zero=>intro m n _ _ h;omega
 |succ k c=>
  intro m n a e _
  obtain⟨m,rfl⟩:∃d,m=d+1:=⟨m - 1,by omega⟩
  simp only[xP]
  by_cases h:n<128
  ·rw[aD h,aD h]
  ·rw[aC h,aC h]
   congr 1
   have b:0<k:=by
    rcases k with _|k
    ·simp at a;omega
    ·omega
   exact c m (n / 128) (by rw[tQ] at a;omega) (by omega) b
theorem C8 (n:Nat) (h:n<128):put n=[UInt8.ofNat n]:=by unfold put;simp only[xP];rw[aD h]
theorem GG (n:Nat) (h:128<=n) (hn:n<18446744073709551616):put n=UInt8.ofNat (n % 128+128)::put (n / 128):=by
 have e:xP 9 (n / 128)=put (n / 128):=Lo 9 10 (n / 128) (by omega) (by omega) (by omega);show xP 10 n=_;rw[<-e];simp only[xP];rw[aC (by omega)]
theorem GF (k:Nat):∀n,n<128 ^ k->0<k->1<=(xP k n).length/\(xP k n).length<=k:=by
 induction k with
 |zero=>intro n _ h;omega
 |succ k c=>
  intro n a _
  simp only[xP]
  split
  ·simp
  ·have b:0<k:=by
    rcases k with _|k
    ·simp at a;omega
    ·omega
   have:=c (n / 128) (by rw[tQ] at a;omega) b
   simp;omega
theorem eX (n:Nat) (hn:n<18446744073709551616):1<=(put n).length/\(put n).length<=10:=GF 10 n (by omega) (by omega)
end Go.Proofs.YtffgfafbffdgaaaGreatDoor
namespace Go.Proofs.YtffgfafbffdgaaaGreatDoor
open Go.RowKit
variable {ds es el:List D}{H H' H0:aA}{cx:Cx}{x y:cY}{s:St}{p bs l:List UInt8}{k a n b o sz i aEY:Nat}{c:Code}{ty:TypeId}{els:List (List D)}
theorem qQ.NF {w:World}{S:Nat->Prop}:∀{ds es:List D}{vs:List Value},qQ ds es->aW w S ds vs->aW w S es vs
 |[],[],vs,_,h=>by simp only[aW] at h ⊢;exact h
 |d::ds,e::es,vs,hv,h=>by
  simp only[aW] at h ⊢;obtain⟨u,us,rfl,h0,h1,h2⟩:=h;exact⟨u,us,rfl,h0,hv.1 w S u h1,qQ.NF hv.2 h2⟩
 |[],_::_,_,hv,_=>hv.elim
 |_::_,[],_,hv,_=>hv.elim
theorem F8 (h:qQ ds es):U2 (.agg ds) (.agg es):=λw S v d=>by
 simp only[D.is] at d ⊢;obtain⟨f,rfl,e⟩:=d;exact⟨f,rfl,h.NF e⟩
theorem SH (h:qQ ds es):U2 (.rp ds) (.rp es):=λw S v d=>by
 simp only[D.is] at d ⊢;obtain⟨b,o,e,f,g,j⟩:=d;exact⟨b,o,e,f,g,h.at j⟩
theorem uq.imp {d d0 e:D}(h:uq H H' d d0)(h2:U2 d0 e):uq H H' d e:=λw v f g=>h2 _ _ _ (h w v f g)
theorem nR {x:Code}{N:St->Prop}{Q:Exit->St->Prop}(M:St->Prop)(h1:W cx x (dR M (λ_ _=>False)) s)(h2:∀s,M s->N s):W cx x (dR N Q) s:=
 nA h1 λe d q=>by cases e <;> first|exact h2 d q|exact q.elim
theorem rl {x:Code}{N:St->Prop}{Q:Exit->St->Prop}(M:St->Prop)(h1:W cx x (dR M (λe d=>e≠ .normal/\Q e d)) s)(h2:∀s,M s->N s):W cx x (dR N Q) s:=
 nA h1 λe d q=>by cases e <;> first|exact h2 d q|exact q.2
open Tryz
theorem Nc {P:Program}{f:FuncId}{us:List Value}{v:Value}(t:Gj P f)(h:∀w,Calls P f us.toArray w λe m=>e=.returned v/\w=m):aN P f (us.map .val) .none λd _=>d=.val v:=
 And.intro t λw j js r _=>by
  have:j=us:=by
   clear h
   induction us generalizing j with
   |nil=>simpa only[fw,aT] using js
   |cons u us z=>
    simp only[cC,aT,D.is] at js
    obtain⟨_,g,rfl,rfl,q⟩:=js
    rw[z g q]
  subst this;refine(h w).mono ?_;rintro e m ⟨rfl,rfl⟩;exact⟨v,.val v,.none,rfl,lN _,r,dr _ _,rfl⟩
theorem XX (n:Nat)(H:aA)(hn:n<18446744073709551616):aN e 161 [.val (.int .u64 n)] H λd H'=>(∃k:Nat,k<=10/\d=i64 k)/\H=H':=by
 have u:=aF H;have j:bits .or .u64 (n:Int) 1=((n|||1:Nat):Int):=u64_or_nat n 1 hn (by omega);have f:n|||1<2 ^ 64:=Nat.or_lt_two_pow hn (by omega)
 have m:=Lib.bitLen_le (n|||1) 64 (by omega) f;have g:aN e 234 [.val (.int .u64 (n|||1:Nat))] H λd H'=>d=i64 (Lib.bitLen (n|||1))/\H=H':=
  qf (Nc (us:=[.int .u64 ((n|||1:Nat):Int)]) (jH func234 rfl rfl) λw=>Lf ((n|||1:Nat):Int) w (by omega) (by omega)) rfl (aBO (iU _ _))
 generalize Lib.bitLen (n|||1)=L at m g;have r:IntKind.i64.wrap ((L:Int)+6)=(L:Int)+6:=aP (by omega);have t:IntKind.i64.wrap (((L:Int)+6).tdiv 7)=(((L+6) / 7:Nat):Int):=by
  have:((L:Int)+6).tdiv 7=(((L+6) / 7:Nat):Int):=by rw[Int.tdiv_eq_ediv_of_nonneg (by omega)];omega
  rw[this,aP (by omega)]
 refine dO func161 ntmps161 results161 λz v Q h=>?_;refine tq j ?_;intro U Y O C;refine g.q ?_;refine ur h (av r t) trivial ?_;exact⟨_,aF _,⟨_,by omega,rfl⟩,rfl⟩
theorem ZH (m:Nat):bits .or .u8 ((m:Int) % (256:Int)) 128=(((UInt8.ofNat (m % 128+128)).toNat:Nat):Int):=by
 rw[show(m:Int) % (256:Int)=((m % 256:Nat):Int) by omega,show(128:Int)=((128:Nat):Int) by rfl,u8_or_nat _ _ (by omega) (by omega),pN];congr 1;have h:∀j:Fin 256,j.val|||128=(j.val % 128+128) % 2 ^ 8:=by decide+kernel
 have:=h ⟨m % 256,by omega⟩;simp only at this;rw[this];omega
theorem Uu (n:Nat)(H:aA)(hn:n<18446744073709551616):aN prog 86 [.val (.int .u64 n)] H λd H'=>d=.seq 1 ((put n).map bD)/\H=H':=by
 refine aq (K:=λd=>d=.seq 1 ((put n).map bD)) ?_;have A:=eX n hn;refine dO func86 ntmps86 results86 λw0 W Q R=>?_;refine t0 ?_;intro U Y O C;refine(XX n _ hn).mono ?_;rintro d _ ⟨⟨k,Z,rfl⟩,rfl⟩;refine t0 ?_;intro U Y O C;refine⟨by omega,by omega,by omega,λb I=>?_⟩;refine tz ?_;refine aO 10 (λi s=>s.df=[]/\∃(f:List UInt8) (x:Nat) (d:D) (N:Option Nat),f.length=i/\put n=f++put x/\x<18446744073709551616/\s.fr 0=.val (.int .u64 x)/\s.fr 3=d/\Gl H 5 1 (f.map bD) d s.H N/\H.le s.H) ⟨rfl,[],n,_,some b,rfl,rfl,hn,rfl,rfl,.inr ⟨b,0,rfl,rfl,I,aK _ _ _⟩,aQ (aF _) I⟩ ?_;rintro i s X ⟨r,f,x,d,N,rfl,m,M,w,G,J,B⟩;have E:f.length+(put x).length<=10:=by rw[<-aV,<-m];exact A.2
 have V:=eX x M;by_cases h:x<128
 case neg=>
  have q:=nT ((128:Int)<=(x:Int));have v:[D.val (.int .u8 (bits .or .u8 (IntKind.u8.wrap (x:Int)) 128))]=bD (UInt8.ofNat (x % 128+128)):=U9 (by rw[pJ];exact ZH x);have S:(x:Int).fdiv (2 ^ min 7 64)=((x / 128:Nat):Int):=by rw[show((2:Int) ^ min 7 64)=128 by decide,Int.fdiv_eq_ediv_of_nonneg _ (by omega)];omega
  have t:=GG x (by omega) M;rw[t,bx] at E;refine tq (bQ w G q) ?_;intro U Y O C;refine ax (e:=5) qL rfl qL rfl QP rfl (by decide) B J (new:=[bD (UInt8.ofNat (x % 128+128))]) (by rw[<-v];exact⟨rfl,rfl⟩) (by rw[aS];show(_+1) * 1<=_;omega) λF P u j g z=>?_;refine tq (av w S) ?_;intro U Y O C;refine⟨by show f.length<10;omega,r,f++[UInt8.ofNat (x % 128+128)],x / 128,F,u,by simp,by rw[m,t];simp,by omega,rfl,rfl,by rw[bI];exact j,g⟩
 have q:=nF ((128:Int)<=(x:Int));have L:put x=[UInt8.ofNat x]:=C8 x h;have v:[D.val (.int .u8 (IntKind.u8.wrap (x:Int)))]=bD (UInt8.ofNat x):=U9 (by rw[pJ,pN];omega);rw[L,eE] at E;refine tq (bQ w G q) ?_;intro U Y O C;refine ax (e:=5) qL rfl qL rfl QP rfl (by decide) B J (new:=[bD (UInt8.ofNat x)]) (by rw[<-v];exact⟨rfl,rfl⟩) (by rw[aS];show(_+1) * 1<=_;omega) λF P u j g z=>?_;refine ur R trivial r ?_;have T:f.map bD++[bD (UInt8.ofNat x)]=(put n).map bD:=by rw[m,L,bI];rfl
 rw[T] at j;exact⟨_,aF _,g,_,da g j,rfl⟩
theorem P4:∀(f n:Nat),n<128 ^ f->n<18446744073709551616->∀k,∀h:k<(put n).length,((put n)[k].toNat<128↔k+1=(put n).length)/\(put n)[k].toNat % 128=n / 128 ^ k % 128/\(0<n->(put n)[k].toNat≠0)/\(k+1=(put n).length->n<128 ^ (k+1))
 |0,n,hf,_,k,h=>by
  have h0:n=0:=by simpa using hf
  subst h0;have e:put 0=[0]:=rfl;simp only[e,eE] at h ⊢;have:k=0:=by omega
  subst this;simp
 |f+1,n,hf,hn,k,h=>by
  by_cases t:n<128
  ·have e:=C8 n t
   have d:(UInt8.ofNat n).toNat=n:=by rw[pN];omega
   have m:k=0:=by rw[e,eE] at h;omega
   subst m;have j:(put n)[0].toNat=n:=by simp only[e,zC,d]
   have g:(put n).length=1:=by rw[e];rfl
   rw[j,g,Nat.pow_zero,Nat.div_one];exact⟨by omega,rfl,by omega,by omega⟩
  ·have e:=GG n (by omega) hn
   have u:=eX (n / 128) (by omega);simp only[e,bx] at h ⊢;cases k with
   |zero=>
    have d:(UInt8.ofNat (n % 128+128)).toNat=n % 128+128:=by rw[pN];omega
    simp only[zC,d,Nat.pow_zero,Nat.div_one]
    omega
   |succ k=>
    obtain⟨j,g,q,r⟩:=P4 f (n / 128) (by rw[tQ] at hf;omega) (by omega) k (by omega)
    simp only[List.getElem_cons_succ]
    refine⟨by omega,?_,λ_=>q (by omega),λm=>?_⟩
    ·rw[g,Nat.div_div_eq_div_mul,tQ,Nat.mul_comm]
    ·have:=r (by omega)
     rw[tQ];omega
theorem Vc (c:UInt8):bits .and .u8 (c.toNat:Int) 127=((c.toNat % 128:Nat):Int):=by
 have h:=c.toNat_lt;have:∀n:Fin 256,bits .and .u8 ((n.val:Nat):Int) 127=((n.val % 128:Nat):Int):=by decide
 exact this ⟨c.toNat,by omega⟩
theorem XF (n m k:Nat)(hn:n<2 ^ k):n|||m * 2 ^ k=n+m * 2 ^ k:=by
 have h:=Nat.shiftLeft_add_eq_or_of_lt hn m;rw[Nat.shiftLeft_eq] at h;rw[Nat.or_comm,<-h,Nat.add_comm]
theorem Mk (n k:Nat)(c:UInt8)(hk:k<=9)(hn:n<18446744073709551616)(hc:c.toNat % 128=n / 128 ^ k % 128):
  bits .or .u64 ((n % 128 ^ k:Nat):Int) (IntKind.u64.wrap (IntKind.u64.wrap ((c.toNat % 128:Nat):Int) * 2 ^ min (IntKind.i64.wrap (7 * (k:Int))).toNat 64))=((n % 128 ^ (k+1):Nat):Int):=by
 have d:(128:Nat) ^ k=2 ^ (7 * k):=by rw[Nat.pow_mul]
 have e:IntKind.i64.wrap (7 * (k:Int))=((7 * k:Nat):Int):=by rw[aP (by omega)];omega
 have j:min (((7 * k:Nat):Int)).toNat 64=7 * k:=by omega
 have f:n % 128 ^ (k+1)=n % 128 ^ k+(c.toNat % 128) * 128 ^ k:=by rw[tQ,Nat.mod_mul,hc,Nat.mul_comm (128 ^ k)]
 have q:n % 128 ^ (k+1)<=n:=Nat.mod_le _ _;have h:n % 128 ^ k<2 ^ (7 * k):=by rw[<-d];exact Nat.mod_lt _ (Nat.pow_pos (by omega))
 have g:IntKind.u64.wrap (((c.toNat % 128:Nat):Int) * 2 ^ (7 * k))=((c.toNat % 128 * 128 ^ k:Nat):Int):=by
  have:((c.toNat % 128:Nat):Int) * 2 ^ (7 * k)=((c.toNat % 128 * 128 ^ k:Nat):Int):=by rw[d];simp
  rw[this];generalize c.toNat % 128 * 128 ^ k=m at *;exact iP (by omega)
 rw[e,j,iP (x:=((c.toNat % 128:Nat):Int)) (by omega),g,u64_or_nat _ _ (by omega) (by omega),f];congr 1;rw[d];exact XF _ _ _ (Nat.mod_lt _ (Nat.two_pow_pos _))
def L1 (p:List UInt8):List (Nat×UInt8):=(List.range p.length).map λk=>(k,p.getD k 0)
theorem vU (p:List UInt8):(L1 p).length=p.length:=by simp [L1]
theorem OF (h:k<p.length):(L1 p).take (k+1)=(L1 p).take k++[(k,p[k])]:=by
 rw[bw (by rw[vU];exact h)];simp [L1,List.getD,h]
def gyD (x:Nat×UInt8):List D:=[i64 x.1,.val (.int .u8 (x.2.toNat:Int))]
theorem OE (b:List UInt8)(H:aA):aN prog 239 [.seq 1 (b.map bD)] H λd H'=>d=.fn 307 [.rp [.seq 1 (b.map bD)]]/\H=H':=by
 refine dO func239 ntmps239 results239 λj h Q f=>?_;refine t0 ?_;intro U Y O C;intro g e;refine Y _ ?_;refine cm 1 e ?_;refine u0 f ?_;exact⟨_,aF _,rfl⟩
theorem LZ (p r:List UInt8)(hb:(p++r).length<=140737488351232)(hp:∀k,∀h:k<p.length,(p[k].toNat<128↔k+1=p.length))(h0:0<p.length):BY prog 307 [.rp [.seq 1 ((p++r).map bD)]] gyD (L1 p) λ_=>True:=by
 obtain⟨bs,u⟩:=oX (p++r);have v:∀k,∀h:k<p.length,(bs.map bD)[k]?=some [.val (.int .u8 (p[k].toNat:Int))]:=λk h=>by rw[bg,u,kT h,az h];rfl
 have S:p.length<=bs.length:=by rw[u,aV];omega
 have t:(bs.map bD).length=bs.length:=aS _;rw[<-u] at hb ⊢;clear u;refine yg _ func307 rfl rfl ntmps307 results307 (by simp) λl J X H w0 g0 Q Z M N E=>?_;refine tn t ?_;refine aO p.length (λk s=>s.df=[]/\s.fr 0=yD l/\s.fr 5=.seq 1 (bs.map bD)/\s.fr 6=i64 bs.length/\s.fr 7=i64 k/\k<p.length/\J ((L1 p).take k) s.H) ⟨rfl,rfl,rfl,rfl,rfl,h0,M⟩ ?_;rintro k s hk ⟨f,m,F,G,I,e,R⟩;have V:=lT k bs.length;have T:=aX k;have z:=aZ k;have B:k<bs.length:=by omega
 have w:(k:Int)<(bs.length:Int):=by omega
 have K:=v k e;have g:=hp k e;obtain⟨c,P⟩:=oX p[k];have j:=OF e;rw[<-P] at K g j;have W:=wS k;(iterate 10 (refine tk (bG m F G I V K T (cA z B w t)) ?_;intro U Y O C));(have fs:=m;refine x9 (3) (by kernel_rfl) ?_;refine Rw ?_;(try clear fs));have A:(L1 p).take k++[(k,c)]<+:L1 p:=by rw[<-j];exact List.take_prefix _ _
 refine lA rfl (oI ((L1 p).take k) (k,c) rfl rfl rfl (by simp [qP]) N A R rfl (λH' d=>?_) λH' d=>?_)
 ·rw[<-j] at d
  by_cases q:c.toNat<128
  ·have D:=nT ((c.toNat:Int)<128)
   refine tq (av m D) ?_;intro U Y O C;have:=g.1 q;exact E _ _ (.inr rfl) f (.inl (by rw[bK (by rw[vU];omega)] at d;exact d))
  ·have D:=nF ((c.toNat:Int)<128)
   have L:k+1<p.length:=by
    rcases fv (k+1) p.length with h|h
    ·exact h
    ·exact absurd (g.2 (by omega)) q
   refine tn (bQ I D W) ?_;exact⟨e,f,m,F,G,rfl,L,d⟩
 ·refine tq m ?_;intro U Y O C
  exact E _ _ (.inr rfl) f (.inr ⟨_,d⟩)
theorem SC {d:List (Nat×UInt8)}{x:Nat×UInt8}(h:(d++[x])<+:L1 p):∃h:d.length<p.length,x=(d.length,p[d.length]):=by
 have g:=h.length_le;rw[vU,aV,eE] at g;refine⟨by omega,?_⟩;have e:(L1 p)[d.length]?=some x:=by
  obtain⟨t,j⟩:=h;rw[<-j];simp
 have f:d.length<p.length:=by omega
 rw[az (by rw[vU];exact f)] at e;injection e with e
 rw[<-e];simp [L1,List.getD,f]
theorem Ye (f r:List UInt8)(n:Nat)(hn:n<18446744073709551616)(hl:(f++(put n++r)).length<=140737488351232):aN prog 164 [.seq 1 ((f++(put n++r)).map bD),i64 f.length] .none λd _=>d=.eO [.val (.int .u64 n),i64 (f.length+(put n).length:Nat),i64 0]:=by
 have c5:=eX n hn;have ae:=P4 10 n (by omega) hn;obtain⟨bs,hB⟩:=oX (f++(put n++r));have bk:List.drop f.length (bs.map bD)=(put n++r).map bD:=by rw[hB,bI];exact List.drop_left' (aS _)
 have c3:bs.length=f.length+((put n).length+r.length):=by rw[hB,aV,aV]
 have ac:(bs.map bD).length=bs.length:=aS _;rw[<-hB] at hl ⊢;clear hB;have it:=LZ (put n) r (by rw[aV];omega) (λk h=>(ae k h).1) (by omega);have p1:=nF ((f.length:Int)<0);have p2:=nF ((bs.length:Int)<(f.length:Int));have hx:(f.length:Int).toNat=f.length:=aX _;refine lH _ _ func164 rfl rfl ntmps164 results164 (by simp) λw0 g0 Q aB=>?_;refine t0 ?_;intro U Y O C;intro b3 bf j a8 m G q v;refine Y _ ?_;obtain⟨ag,a8⟩:=bF.1 a8;obtain⟨W,G⟩:=bF.1 G;obtain⟨ak,G⟩:=bF.1 G;obtain⟨Z,v⟩:=bF.1 v;obtain⟨X,v⟩:=bF.1 v;obtain⟨al,v⟩:=bF.1 v;refine dZ 3 rfl (b:=b3) (by simp only[iN,uP];rw[aJ (Ne.symm al),aJ (Ne.symm ak),aJ (Ne.symm ag),aK]) rfl ?_;simp only[St.ku,iN,fC,uP,oR,kC (Ne.symm al),kC (Ne.symm ak),kC (Ne.symm ag),kX,iy bf,List.drop];refine tq (bQ p1 p2 ac) ?_;intro U Y O C;intro z w;refine Y _ ?_;obtain⟨a6,w⟩:=bF.1 w;obtain⟨a5,w⟩:=bF.1 w;obtain⟨a0,w⟩:=bF.1 w;obtain⟨H2,u⟩:=oX (((((aA.none.aU j (.row 153 0 1 [[.val (.int .u64 0)]])).aU m (.row 3 0 1 [[i64 0]])).aU q (.row 48 0 1 [[i64 0]])).aU z (.row 153 0 1 [[.val (.int .u64 0)]])));have g4:H2 j=some (.row 153 0 1 [[.val (.int .u64 0)]]):=by rw[u,aJ (Ne.symm a0),aJ (Ne.symm X),aJ (Ne.symm W),aK]
 have g5:H2 m=some (.row 3 0 1 [[i64 0]]):=by rw[u,aJ (Ne.symm a5),aJ (Ne.symm Z),aK]
 have g6:H2 q=some (.row 48 0 1 [[i64 0]]):=by rw[u,aJ (Ne.symm a6),aK]
 have g7:H2 z=some (.row 153 0 1 [[.val (.int .u64 0)]]):=by rw[u,aK]
 simp only[i64] at u;rw[<-u];clear u;refine tq (bQ hx ac bk) ?_;intro U Y O C;refine⟨by omega,by omega,(OE _ _).mono ?_⟩;rintro d _ ⟨rfl,rfl⟩;refine t0 ?_;intro U Y O C;refine iz (λs=>s.df=[]/\s.fr 3=.rp [i64 f.length]/\s.fr 4=.ep j 0 1 0 0/\s.fr 5=.ep m 0 1 0 0/\s.fr 6=.ep q 0 1 0 0/\s.fr 7=.ep z 0 1 0 0/\s.fr 21=.fn 307 [.rp [.seq 1 ((put n++r).map bD)]]/\s.H=H2) ⟨rfl,rfl,rfl,rfl,rfl,rfl,rfl,rfl⟩ ?_;rintro s ⟨ab,f3,F,N,P,R,bb,bq⟩;refine kZ rfl it bb (λ_ _=>trivial) (by simp) (λ_=>rfl) (λB g=>B.length<(put n).length/\g j=some (.row 153 0 1 [[.val (.int .u64 0)]])/\g m=some (.row 3 0 1 [[i64 0]])/\g q=some (.row 48 0 1 [[i64 0]])/\g z=some (.row 153 0 1 [[.val (.int .u64 ((n % 128 ^ B.length:Nat):Int))]])) (λe B g=>e=.ret/\g j=some (.row 153 0 1 [[.val (.int .u64 n)]])/\g m=some (.row 3 0 1 [[i64 (f.length+(put n).length:Nat)]])/\g q=some (.row 48 0 1 [[i64 0]])) ?_ ?_ ?_ ?_ ?_ ?_
 ·rintro B H1 H3 J ⟨h0,S,h2,h3,I⟩
  exact⟨h0,J _ _ S (by simp),J _ _ h2 (by simp),J _ _ h3 (by simp),J _ _ I (by simp)⟩
 ·rintro e B H1 H3 J ⟨h0,S,h2,h3⟩
  exact⟨h0,J _ _ S (by simp),J _ _ h2 (by simp),J _ _ h3 (by simp)⟩
 ·rw[bq]
  exact⟨by show 0<_;omega,g4,g5,g6,by rw[g7];simp⟩
 ·rintro l w1 B x g o g1 b2 ⟨bt,I,h5,h6,h7⟩ ad bl
  obtain⟨hk,rfl⟩:=SC b2;obtain⟨k,T⟩:∃k,B.length=k:=⟨_,rfl⟩;obtain⟨a1,a2,a3,a4⟩:=ae B.length hk;obtain⟨c,hc⟩:=oX ((put n)[B.length]);rw[<-hc] at a1 a2 a3 ⊢;simp only[T] at hk a1 a2 a3 a4 hc bt h7 ⊢;rw[gyD,T4];refine tq (cw cR cO cE au ab) ?_;intro U Y O C;simp only[cF];refine⟨rfl,jU _,λw2 y g2=>?_⟩;have ne:∀b t e,g b=some (.row t 0 1 e)->b≠l:=λb t e h h2=>by rw[h2,bl] at h;cases h
  have r4:=(aJ (x:=.obj y) (ne _ _ _ I)).trans I;have r5:=(aJ (x:=.obj y) (ne _ _ _ h5)).trans h5;have r6:=(aJ (x:=.obj y) (ne _ _ _ h6)).trans h6;have r7:=(aJ (x:=.obj y) (ne _ _ _ h7)).trans h7;have b8:=jU (g.aU l (.obj y));have ba:k<=9:=by omega
  have br:=Mk n k c ba hn a2;have bi:k=9->c.toNat<=1:=λe=>by
   subst e;have S:n / 128 ^ 9<=1:=by omega
   have h2:=a1.2 (by omega);omega
  have a9:c.toNat=0->k=0:=λe=>Decidable.byContradiction λc4=>by
   have bm:n=0:=Decidable.byContradiction λh=>a3 (by omega) e;rw[bm] at hk;simp [put,xP] at hk;omega
  refine nP ?_;refine bW ?_;refine nR (λs1=>s1.df=[]/\s1.fr 3=.rp [i64 f.length]/\s1.fr 4=.ep j 0 1 0 0/\s1.fr 5=.ep m 0 1 0 0/\s1.fr 6=.ep q 0 1 0 0/\s1.fr 7=.ep z 0 1 0 0/\s1.fr 8=i64 k/\s1.fr 9=.val (.int .u8 (c.toNat:Int))/\s1.H=g.aU l (.obj y)) ?_ ?_
  ·rcases fv k 9 with hk9|hk9
   ·have K:=nF ((k:Int)=9)
    rcases wO c.toNat with e0|e0
    ·have q2:=nT ((c.toNat:Int)=0)
     have q3:((0:Int)<(k:Int))=False:=aI (by have:=a9 e0;omega);refine tn (ej cR cO cE au K q2 q3) ?_;exact⟨rfl,f3,F,N,P,R,rfl,rfl,rfl⟩
    ·have q2:=nF ((c.toNat:Int)=0)
     refine tn (eP cR cO cE au K q2) ?_;exact⟨rfl,f3,F,N,P,R,rfl,rfl,rfl⟩
   ·have K:=nT ((k:Int)=9)
    have q2:((c.toNat:Int)=0)=False:=aI λh=>by have:=a9 (by omega);omega
    have q3:((1:Int)<(c.toNat:Int))=False:=aI (by have:=bi (by omega);omega);refine tn (ej cR cO cE au K q2 q3) ?_;exact⟨rfl,f3,F,N,P,R,rfl,rfl,rfl⟩
  clear f3 F N P R;rintro s1 ⟨e1,f3,F,N,P,R,f8,f9,e2⟩;have b9:=Vc c;refine bW ?_;refine wE (λ_=>false) (λ_=>false) (λ_ _ _ _=>False) (λ_ _ _ _ _=>False) λU Y=>?_;have fs:=And.intro R (And.intro f8 (And.intro f9 (And.intro e2 (And.intro r7 (And.intro b9 br)))));refine uj ?_;refine nx ?_;(try clear fs);refine⟨by rw[aP (by omega)];omega,Y _ ?_⟩;have c0:∀H x,(aA.aU H z x) j=H j:=λ_ _=>aJ (Ne.symm a0);have c1:∀H x,(aA.aU H z x) m=H m:=λ_ _=>aJ (Ne.symm a5);have c2:∀H x,(aA.aU H z x) q=H q:=λ_ _=>aJ (Ne.symm a6);have ar:∀H x,(aA.aU H j x) m=H m:=λ_ _=>aJ W;have b0:∀H x,(aA.aU H j x) q=H q:=λ_ _=>aJ X;have b1:∀H x,(aA.aU H m x) q=H q:=λ_ _=>aJ Z;have ap:∀H x,(aA.aU H q x) j=H j:=λ_ _=>aJ (Ne.symm X);have aw:∀H x,(aA.aU H q x) m=H m:=λ_ _=>aJ (Ne.symm Z);have am:∀H x,(aA.aU H m x) j=H j:=λ_ _=>aJ (Ne.symm W);have L:=b8.row (x:=.row 153 0 1 [[.val (.int .u64 ((n % 128 ^ (k+1):Nat):Int))]]) r7 (by simp);obtain⟨E,A⟩:=oX ((g.aU l (.obj y)).aU z (.row 153 0 1 [[.val (.int .u64 ((n % 128 ^ (k+1):Nat):Int))]]));have z4:E j=some (.row 153 0 1 [[.val (.int .u64 0)]]):=by rw[A,c0];exact r4
  have z5:E m=some (.row 3 0 1 [[i64 0]]):=by rw[A,c1];exact r5
  have z6:E q=some (.row 48 0 1 [[i64 0]]):=by rw[A,c2];exact r6
  have z7:E z=some (.row 153 0 1 [[.val (.int .u64 ((n % 128 ^ (k+1):Nat):Int))]]):=by rw[A];exact aK _ _ _
  rw[<-A] at L ⊢;by_cases aa:c.toNat<128
  ·have K:=nT ((c.toNat:Int)<128)
   have V:k+1=(put n).length:=a1.1 aa;have bo:n % 128 ^ (k+1)=n:=zP (a4 V);have w3:IntKind.i64.wrap (IntKind.i64.wrap ((f.length:Int)+(k:Int))+1)=((f.length+(put n).length:Nat):Int):=by rw[aP (x:=(f.length:Int)+(k:Int)) (by omega),aP (by omega)];omega
   rw[bo] at z7;have a7:gE (g.aU l (.obj y)) (E.del z):=λc o e=>by
    have h:=L c o e;rw[bL (λe2=>by rw[e2,z7] at h;cases h)];exact h
   refine tq (av f9 K) ?_;intro U Y O C;refine dZ 7 R z7 rfl ?_;simp only[St.ku,iN,fS,fC,eL,List.drop];have y4:=(bL (H:=E) (Ne.symm a0)).trans z4;have y5:=(bL (H:=E) (Ne.symm a5)).trans z5;have y6:=(bL (H:=E) (Ne.symm a6)).trans z6;obtain⟨H6,be⟩:=oX (E.del z);rw[<-be] at y4 y5 y6 a7 ⊢;refine wE (λt=>decide (t=some 48\/t=some 49)) (λ_=>false) (λ_ _ _ _=>False) (λ_ _ _ _ _=>False) λU Y=>?_;have fs:=And.intro f3 (And.intro F (And.intro N (And.intro P (And.intro f8 (And.intro y4 (And.intro y5 (And.intro y6 (And.intro ar (And.intro b0 (And.intro b1 (And.intro am (And.intro ap (And.intro aw w3)))))))))))));refine uj ?_;refine nx ?_;(try clear fs);rw[cF];refine zZ ?_;simp only[fL,eU,fW];exact⟨e1,((a7.row (x:=.row 153 0 1 [[.val (.int .u64 n)]]) y4 (by simp)).row (x:=.row 3 0 1 [[i64 (f.length+(put n).length:Nat)]]) ((ar _ _).trans y5) (by simp)).row ((b1 _ _).trans ((b0 _ _).trans y6)) (by simp),trivial,(ap _ _).trans ((am _ _).trans (aK _ _ _)),(aw _ _).trans (aK _ _ _),aK _ _ _⟩
  ·have K:=nF ((c.toNat:Int)<128)
   have V:k+1<(put n).length:=by
    rcases fv (k+1) (put n).length with h|h
    ·exact h
    ·exact absurd (a1.2 (by omega)) aa
   refine tq (av f9 K) ?_;intro U Y O C;simp only[fK,cp];exact⟨e1,L,by rw[aV,T];exact V,z4,z5,z6,by rw[aV,T];exact z7⟩
 ·rintro g M ⟨S,_⟩ ad hD bc
  rw[vU] at S;exact absurd S (Nat.lt_irrefl _)
 ·rintro e c B g M hj ⟨rfl,I,h5,h6⟩ ad hD bc
  have m4:j≠M:=λe=>by rw[e,hD] at I;cases I
  have m5:m≠M:=λe=>by rw[e,hD] at h5;cases h5
  have m6:q≠M:=λe=>by rw[e,hD] at h6;cases h6
  rw[mK,ab];refine eG F ?_;refine aB _ _ (.inr rfl) ?_ ?_
  ·refine eG F ?_
   exact Ql hD
  ·rw[cE,sP]
   simp (maxSteps:=4000000) only[vX,vB,vT,vZ,ij,fh,Fp,yk,AX,gV,fE,fj,↓iR,yb,cU,DJ,ze,By,oi,od,pn,po,ki,j8,kh,ic,D.nilPtr,D.iM,D.iF,fH,Bj,CE,wX,gy,jw,fieldsOf,gU,B6,B7,B8,B9,sL,BT,D.cells,jx,DE,DB,pv,eK,eH,B3,BR,jd,EC,rS,Be,gP,TD.gX,TD.agg,Eo,rU,oe,FI,nZ,pY,pX,Ba,B5,mF,pZ,dR,eT,Value.oneCell',iX,iV,gp,reduceCtorEq,kY,iZ,dN,dY,↓reduceIte,Nat.reduceEqDiff,Int.reduceLE,Int.reduceLT,Int.reduceNeg,Int.reduceToNat,Nat.reduceAdd,Nat.reduceMul,Nat.reduceLeDiff,Nat.reduceMod,Nat.reduceSub,Int.reduceEq,Int.reduceNe,Int.reduceAdd,Int.reduceSub,Int.reduceMul,iW,cR,cO,cE,au,cF,fW,cp,eU,fK,fL,fQ,fR,fP,i64,F,N,P,aJ m4,aJ m5,aJ m6,I,h5,h6,i64];exact⟨_,aF _⟩
structure zV (bs:List UInt8) (a n b:Nat):Prop where
 ex:∃pre r,bs=pre++(put n++r)/\pre.length=a/\a+(put n).length=b
 lt:n<18446744073709551616
theorem zV.le (h:zV bs a n b):a<b/\b<=bs.length:=by
 obtain⟨f,r,d,g,j⟩:=h.ex;have:=eX n h.lt;have e:=ai List.length d;rw[aV,aV] at e;omega
theorem OC (h:zV bs a n b)(H:aA)(hl:bs.length<=140737488351232):aN prog 164 [.seq 1 (bs.map bD),i64 a] H λd H'=>d=.eO [.val (.int .u64 n),i64 b,i64 0]/\H=H':=by
 obtain⟨e,r,rfl,rfl,rfl⟩:=h.ex;exact qf (Ye e r n h.lt hl) rfl (MM (iU _ _) (iU _ _))
theorem Gv {Q:Exit->St->Prop}(H0:aA)(hd:Es H0 s.H)(hk:∀w,eF w s.H->eF w H0)(h:W cx c Q (s.cJ H0)):W cx c Q s:=λa w m=>h a w (m.go (nE hd w) (hk w m.H))
theorem Cb {w:World}(d:eF w H'){e:Type}{f g:e->D}:∀{l:List e}{k:Nat},(∀x∈l,uq H0 H' (f x) (g x))->cK w H'.others b 1 k (l.map λx=>[f x])->cK w H0.others b 1 k (l.map λx=>[g x])
 |[],k,_,_=>by simp [cK]
 |x::l,k,hf,h=>by
  simp only[cC,cK,bU] at h ⊢;obtain⟨h1,⟨⟨u,h2,h3,h4⟩,_⟩,h5⟩:=h;exact⟨rfl,⟨⟨u,h2,h3,hf x (by simp) w u d h4⟩,trivial⟩,Cb d (λy j=>hf y (dH _ j)) h5⟩
theorem Hw (H:aA)(b:Nat)(x y:cY):(H.aU b x).others=(H.aU b y).others:=by
 funext c;unfold aA.others;by_cases e:c=b
 ·rw[e,aK,aK];simp
 ·rw[aJ e,aJ e]
theorem Mh {cx:Cx}{c:Code}{Q:Exit->St->Prop}(H:aA){r:Type}{f:r->D}(g:r->D){l:List r}(t:H.le s.H)(h0:H b=none)(hb:s.H b=some (.row ty o 1 (l.map λx=>[f x])))
  (hf:∀x∈l,uq (H.aU b (.row ty o 1 (l.map λx=>[f x]))) s.H (f x) (g x)) (h:W cx c Q (s.cJ (H.aU b (.row ty o 1 (l.map λx=>[g x]))))):W cx c Q s:=by
 have j:∀x,Es (H.aU b x) s.H:=λx c d=>by
  have q:c≠b:=λe=>by rw[e,hb] at d;cases d
  rw[aJ q];exact gA t d
 refine Gv _ (j _) (λw m c x d=>?_) h;by_cases e:c=b
 ·subst e
  rw[aK] at d;injection d with d
  subst d;obtain⟨cs,v,z,A,u,B⟩:=m _ _ hb;refine⟨cs,v,z,A,by rw[aS] at u ⊢;exact u,?_⟩;rw[Hw H c _ (.row ty o 1 (l.map λx=>[f x]))];exact Cb m hf B
 ·rw[aJ e] at d
  exact(nE (j _) w).jb rfl (m c x (t _ _ d))
theorem yC (h:H b=some x):(H.aU b y).others=H.others:=by
 funext c;unfold aA.others;by_cases e:c=b
 ·rw[e,aK,h];simp
 ·rw[aJ e]
theorem KZ {Q:Exit->St->Prop}(k:Nat)(hb:s.H b=some (.row ty o sz els))(h:W cx c Q (s.cJ (s.H.aU b (.row ty o sz (els.take k))))):W cx c Q s:=by
 have g:Es (s.H.aU b (.row ty o sz (els.take k))) s.H:=λc d=>by rw[aJ (λe=>by rw[e,hb] at d;cases d)];exact d
 refine Gv _ g (λw f c x d=>?_) h;by_cases e:c=b
 ·subst e
  rw[aK] at d;injection d with d
  subst d;obtain⟨cs,j,m,q,t,r⟩:=f _ _ hb;refine⟨cs,j,m,q,?_,?_⟩
  ·have:(els.take k).length * sz<=els.length * sz:=jl _ (by rw[bX];omega)
   omega
  ·rw[yC hb];exact ko r k
 ·rw[aJ e] at d
  exact(nE g w).jb rfl (f c x d)
theorem RL {Q:Exit->St->Prop}{e:TypeId}{ob:Option Nat}(t:Nat)(g:H0.le s.H)(hg:Gl H0 e sz els (s.fr t) s.H ob)(h:∀H',H0.le H'->(∀b z,s.H b=some z->ob≠some b->H' b=some z)->W cx c Q ((s.cJ H').put (some t) (.seq sz els))):W cx c Q s:=by
 rcases hg with⟨_,d,rfl⟩|⟨m,o,rfl,d,q,r⟩
 ·exact RK t (.seq sz []) (λw v j=>by rw[d] at j;exact yo j) (h s.H g λ_ _ h _=>h)
 ·refine ux t d r (by omega) ?_
  have:=h (s.H.del m) (aA.AW g q) λb z u f=>by rw[bL (λe=>f (by rw[e]))];exact u
  unfold St.cm;rwa[dj,dI]
theorem sB (els:List (List D))(H:aA)(hl:els.length<=140737488000000):aN prog 43 [.seq 1 els] H λd H'=>d=.seq 1 els/\H=H':=by
 refine aq (K:=λd=>d=.seq 1 els) ?_;refine dO func43 ntmps43 results43 λz w Q m=>?_;refine t0 ?_;intro U Y O C;intro b r;refine Y _ ?_;cases b with
 |true=>
  refine u0 m ?_
  have t:els=[]:=eC λe=>Bool.noConfusion (r λq=>e (cy q))
  exact⟨_,aF _,aF _,_,t▸iq,rfl⟩
 |false=>
  refine t0 ?_;intro U Y O C
  intro j g
  refine ax (e:=5) qL rfl qL rfl QP rfl (by decide) (aQ (aF _) g) (.inr ⟨j,0,rfl,rfl,g,aK _ _ _⟩:Gl H 5 1 [] (.os j 0 1 0 0) (H.aU j (.row 5 0 1 [])) (some j)) (new:=els) (by exact⟨rfl,rfl⟩) (by rw[dX];show(_+_) * 1<=_;omega) λd v u h f _=>?_
  refine u0 m ?_
  rw[cz] at h
  exact⟨_,aF _,f,_,da f h,rfl⟩
theorem Vy {d:D}{ob:Option Nat}(f:H0.le H)(hg:Gl H0 5 1 els d H ob)(hl:els.length<=140737488000000):aN prog 43 [d] H λg H'=>g=.seq 1 els/\H0=H':=by
 rcases hg with⟨_,rfl,rfl⟩|⟨c,o,_,rfl,h,j⟩
 ·refine((sB [] H (by simp)).imp (ds:=[.val (.slice none 0 0)]) ⟨fO,trivial⟩).post ?_
  rintro g _ ⟨rfl,rfl⟩;exact⟨_,H0,f,aL f,rfl,rfl⟩
 ·refine aN.aCg (k:=0) (n:=els.length) j (by omega) ?_
  rw[dj,dI];have e:=aA.AW f h;refine(sB els (H.del c) hl).post ?_;rintro g _ ⟨rfl,rfl⟩;exact⟨_,H0,e,aL e,rfl,rfl⟩
def WS (H0:aA) (b:Nat) (l:List UInt8) (H:aA):Prop:=H0 b=none/\H0.le H/\∃d e,H b=some (.row 230 0 1 [[d]])/\Gl H0 5 1 (l.map bD) d H e/\e≠some b
theorem sO (H:aA):aN prog 72 [] H λd H'=>∃b,d=.ep b 0 1 0 0/\WS H b [] H':=by
 refine dO func72 ntmps72 results72 λh g Q f=>?_;refine t0 ?_;intro U Y O C;intro b e;refine Y _ ?_;refine u0 f ?_;exact⟨_,aF _,b,rfl,e,aQ (aF _) e,_,none,aK _ _ _,eB _ _ _ _,by simp⟩
theorem mV (c:UInt8)(h:WS H0 b l H)(hl:l.length<=1000000000):aN prog 157 [.ep b 0 1 0 0,.val (.int .u8 (c.toNat:Int))] H λd H'=>WS H0 b (l++[c]) H':=by
 obtain⟨t,z,d,J,u,E,m⟩:=h;refine dO func157 ntmps157 results157 λK I Q w=>?_;refine tq u ?_;intro U Y O C;refine ax (e:=5) qL rfl qL rfl QP rfl (by decide) z E (new:=[bD c]) (by exact⟨rfl,rfl⟩) (by rw[aS];show(_+1) * 1<=_;omega) λA G r g j q=>?_;obtain⟨F,v⟩:=q b _ u m;have f:=g.cells;simp only[D.cells] at f;refine eV (av F f) ?_;refine nx ?_;refine u0 w ?_;exact⟨_,aF _,t,aQ j t,A,r,aK _ _ _,by rw[bI];exact g.cM λc B=>aJ λe=>v (by rw[B,e]),v⟩
theorem wB (n:Nat)(hn:n<18446744073709551616)(h:WS H0 b l H)(hl:l.length<=1000000000):aN prog 88 [.ep b 0 1 0 0,.val (.int .u64 n)] H λd H'=>WS H0 b (l++put n) H':=by
 obtain⟨v,E,d,N,q,I,r⟩:=h;have M:=eX n hn;refine dO func88 ntmps88 results88 λP L Q z=>?_;refine tq q ?_;intro U Y O C;refine wE (λ_=>false) (λ_=>false) (λ_ _ d A=>A=.none/\d=.seq 1 ((put n).map bD)) (λ_ _ _ _ _=>False) λU Y=>?_;have fs:=q;refine uj ?_;refine nx ?_;(try clear fs);refine⟨an λj B=>Uu n j hn,?_⟩;refine ax (e:=5) qL rfl qL rfl QP rfl (by decide) E I (new:=(put n).map bD) (by exact⟨rfl,rfl⟩) (by rw[aS,aS];show(_+_) * 1<=_;omega) λF K u g m t=>?_;obtain⟨J,w⟩:=t b _ q r;have f:=g.cells;simp only[D.cells] at f;refine eV (av J f) ?_;refine nx ?_;refine u0 z ?_;exact⟨_,aF _,v,aQ m v,F,u,aK _ _ _,by rw[bI];exact g.cM λc G=>aJ λe=>w (by rw[G,e]),w⟩
theorem Xh (s:List UInt8)(h:WS H0 b l H)(hl:(l++(put s.length++s)).length<=1000000000):aN prog 89 [.ep b 0 1 0 0,.val (.string (dg s))] H λd H'=>WS H0 b (l++(put s.length++s)) H':=by
 rw[aV,aV] at hl;have F:IntKind.u64.wrap (s.length:Int)=(s.length:Int):=iP (by omega);refine dO func89 ntmps89 results89 λN L Q w=>?_;refine tq (av gx F) ?_;intro U Y O C;refine(wB s.length (by omega) h (by omega)).mono ?_;rintro d I ⟨t,z,K,M,u,E,m⟩;refine tq (av u gM) ?_;intro U Y O C;refine ax (e:=5) qL rfl G5 rfl QP rfl (by decide) z E (new:=s.map bD) (by exact⟨rfl,rfl⟩) (by rw[aS,aS,aV];show(_+_) * 1<=_;omega) λA J r g j q=>?_;obtain⟨G,v⟩:=q b _ u m;have f:=g.cells;simp only[D.cells] at f;refine eV (av G f) ?_;refine nx ?_;refine u0 w ?_;exact⟨_,aF _,t,aQ j t,A,r,aK _ _ _,by rw[<-bE,bI];exact g.cM λc B=>aJ λe=>v (by rw[B,e]),v⟩
theorem BM (h:WS H0 b l H)(hl:l.length<=1000000000):aN prog 82 [.ep b 0 1 0 0] H λd H'=>d=.seq 1 (l.map bD)/\H0=H':=by
 obtain⟨t,f,d,u,g,j,m⟩:=h;refine dO func82 ntmps82 results82 λv r Q e=>?_;refine tq g ?_;intro U Y O C;refine(Vy f j (by rw[aS];omega)).mono ?_;rintro q _ ⟨rfl,rfl⟩;refine u0 e ?_;exact⟨_,aF _,rfl⟩
theorem Wq {c:Nat}(h2:H a=none)(h3:H c=none):H.le ((((H.aU a x).aU c y).del a).del c):=λb z d=>by
 have f:b≠a:=λe=>by rw[e,h2] at d;cases d
 have g:b≠c:=λe=>by rw[e,h3] at d;cases d
 rw[bL g,bL f,aJ g,aJ f];exact d
theorem Wn {c:Nat}(h2:H a=none)(h3:H c=none)(hn:c≠a):(H.aU c y).le (((H.aU a x).aU c y).del a):=λb z d=>by
 by_cases e:b=c
 ·subst e
  rw[aK] at d;rw[bL hn,aK];exact d
 ·rw[aJ e] at d
  have f:b≠a:=λe=>by rw[e,h2] at d;cases d
  rw[bL f,aJ e,aJ f];exact d
def Xv (t u:Nat) (P:Prop):Prop:=P
theorem WU {Q:Exit->St->Prop}{t u:Nat}(ht:s.fr t=.ep b o sz i k)(hb:s.H b=some (.row ty o sz els))(hi:els[i]?=some el)(h:AtT u (W cx c Q (s.ku t b k el))):Xv t u (W cx c Q s):=dZ t ht hb hi h
theorem uB {P Q:Prop}{H:aA}{a b:Nat}{x:cY}(t u:Nat) (ha:H a=Option.none) (hb:(H.aU a x) b=Option.none) (hq:Q) (h:H a=Option.none->(H.aU a x) b=Option.none->Q->Xv t u P:=by
 intro ha hb h;obtain⟨Yz,hFz⟩:=bF.1 hb;refine WU rfl ((aJ Yz.symm).trans (aK _ _ _)) rfl ?_;refine Ny rfl ((bL Yz).trans (aK _ _ _)) rfl ?_;refine lB _ (Wq ha hFz) ?_;simp only[St.ku,List.drop];exact h):P:=h ha hb hq
theorem Yc {P Q:Prop}{H:aA}{a b:Nat}{x:cY}(t:Nat) (ha:H a=Option.none) (hb:(H.aU a x) b=Option.none) (hq:Q) (h:H a=Option.none->(H.aU a x) b=Option.none->Q->AtT t P:=by
 intro ha hb h;obtain⟨Yz,hFz⟩:=bF.1 hb;refine Ny rfl ((aJ Yz.symm).trans (aK _ _ _)) rfl ?_;refine lB _ (Wn ha hFz Yz) ?_;simp only[St.ku,List.drop];exact h):P:=h ha hb hq
def jc (l:List UInt8) (a:Nat):cY:=.row 282 0 3 [[.seq 1 (l.map bD),i64 a,i64 0]]
theorem sN (l:List UInt8)(H:aA)(hl:l.length<=1000000000):aN prog 118 [.seq 1 (l.map bD)] H λd H'=>∃r,H r=none/\d=.ep r 0 3 0 0/\H'=H.aU r (jc l 0):=by
 refine dO func118 ntmps118 results118 λh g Q e=>?_;refine t0 ?_;intro U Y O C;refine(sB _ _ (by rw[aS];omega)).mono ?_;rintro d _ ⟨rfl,rfl⟩;refine t0 ?_;intro U Y O C;intro r f;refine Y _ ?_;refine u0 e ?_;exact⟨_,aF _,r,f,rfl,rfl⟩
theorem TU (l:List UInt8)(a to r:Nat)(H:aA)(g:FuncId)(e:List D)(f:D)(hb:H r=some (jc l a))(hf:aN prog g e H λd H'=>d=.eO [f,i64 to,i64 0]/\H=H'):aN prog 193 [.ep r 0 3 0 0,.fn g e] H λd H'=>d=f/\H'=H.aU r (jc l to):=by
 unfold jc at hb;refine dO func193 ntmps193 results193 λm j Q h=>?_;refine tq hb ?_;intro U Y O C;refine hf.q ?_;refine ur h hb trivial ?_;exact⟨_,aF _,rfl⟩
theorem TW (l:List UInt8)(a to r:Nat)(H:aA)(g:FuncId)(e:List D)(f:D)(hb:H r=some (jc l a))(hf:aN prog g e H λd H'=>d=.eO [f,i64 to,i64 0]/\H=H'):aN prog 266 [.ep r 0 3 0 0,.fn g e] H λd H'=>d=f/\H'=H.aU r (jc l to):=by
 unfold jc at hb;refine dO func266 ntmps266 results266 λm j Q h=>?_;refine tq hb ?_;intro U Y O C;refine hf.q ?_;refine ur h hb trivial ?_;exact⟨_,aF _,rfl⟩
theorem TT (l:List UInt8)(a to r:Nat)(H:aA)(g:FuncId)(e:List D)(f:D)(hb:H r=some (jc l a))(hf:aN prog g e H λd H'=>d=.eO [f,i64 to,i64 0]/\H=H'):aN prog 264 [.ep r 0 3 0 0,.fn g e] H λd H'=>d=f/\H'=H.aU r (jc l to):=by
 unfold jc at hb;refine dO func264 ntmps264 results264 λm j Q h=>?_;refine tq hb ?_;intro U Y O C;refine hf.q ?_;refine ur h hb trivial ?_;exact⟨_,aF _,rfl⟩
theorem TV (l:List UInt8)(a to r:Nat)(H:aA)(g:FuncId)(e:List D)(f:D)(hb:H r=some (jc l a))(hf:aN prog g e H λd H'=>d=.eO [f,i64 to,i64 0]/\H=H'):aN prog 262 [.ep r 0 3 0 0,.fn g e] H λd H'=>d=f/\H'=H.aU r (jc l to):=by
 unfold jc at hb;refine dO func262 ntmps262 results262 λm j Q h=>?_;refine tq hb ?_;intro U Y O C;refine hf.q ?_;refine ur h hb trivial ?_;exact⟨_,aF _,rfl⟩
theorem ou (h:zV l a n b)(r:Nat)(H:aA)(hb:H r=some (jc l a))(hl:l.length<=1000000000)(hm:n<=aEY)(z:aEY<=9223372036854775807)(hn:n+b<=l.length):aN f 119 [.ep r 0 3 0 0,i64 aEY] H λd H'=>d=i64 n/\H'=H.aU r (jc l b):=by
 have w:=h.lt;have K:=h.le;have q:=lm bD l;have e:=hb;unfold jc at e;have u:aN f 194 [.rp [.ep r 0 3 0 0],.rp [i64 aEY]] H λd H'=>d=.eO [i64 n,i64 b,i64 0]/\H=H':=by
  have B:=nF ((aEY:Int)<0);have G:IntKind.u64.wrap (aEY:Int)=(aEY:Int):=iP (by omega);have D:=nF ((aEY:Int)<(n:Int));have I:IntKind.u64.wrap (IntKind.i64.wrap ((l.length:Int) - (b:Int)))=(l.length:Int) - b:=by rw[aP (by omega),iP (by omega)]
  have E:=nF ((l.length:Int) - (b:Int)<(n:Int));have J:IntKind.i64.wrap (n:Int)=(n:Int):=aP (by omega);refine dO func194 ntmps194 results194 λF v Q j=>?_;refine t0 ?_;intro U Y O C;refine dE (λ_ _ d A=>A=.none/\d=.eO [.val (.int .u64 n),i64 b,i64 0]) λU Y=>?_;refine dst e ?_;intro U Y O C;refine⟨an λg t=>OC h g (by omega),?_⟩;refine dst e ?_;intro U Y O C;refine ur j (bG e q B G D I E J) trivial ?_;exact⟨_,aF _,rfl⟩
 refine dO func119 ntmps119 results119 λF v Q j=>?_;refine t0 ?_;intro U Y O C;intro L e M m;refine Y _ ?_;refine uB 2 3 e m ?_;refine t0 ?_;intro U Y O C;refine(TU l a b r _ _ _ (i64 n) hb u).mono ?_;rintro d _ ⟨rfl,rfl⟩;refine u0 j ?_;exact⟨_,aF _,rfl⟩
theorem Xd (h:zV l a n b)(r:Nat)(H:aA)(hb:H r=some (jc l a))(hl:l.length<=1000000000)(hm:n<=aEY):aN f 200 [.ep r 0 3 0 0,.val (.int .u64 aEY)] H λd H'=>d=.val (.int .u64 n)/\H'=H.aU r (jc l b):=by
 have e:=hb;unfold jc at e;have t:aN f 267 [.rp [.ep r 0 3 0 0],.rp [.val (.int .u64 aEY)]] H λd H'=>d=.eO [.val (.int .u64 n),i64 b,i64 0]/\H=H':=by
  have v:=nF ((aEY:Int)<(n:Int));refine dO func267 ntmps267 results267 λw u Q j=>?_;refine t0 ?_;intro U Y O C;refine dE (λ_ _ d A=>A=.none/\d=.eO [.val (.int .u64 n),i64 b,i64 0]) λU Y=>?_;refine dst e ?_;intro U Y O C;refine⟨an λg q=>OC h g (by omega),?_⟩;refine dst e ?_;intro U Y O C;refine ur j v trivial ?_;exact⟨_,aF _,rfl⟩
 refine dO func200 ntmps200 results200 λw u Q j=>?_;refine t0 ?_;intro U Y O C;intro z e B m;refine Y _ ?_;refine uB 2 3 e m ?_;refine t0 ?_;intro U Y O C;refine(TW l a b r _ _ _ (.val (.int .u64 n)) hb t).mono ?_;rintro d _ ⟨rfl,rfl⟩;refine u0 j ?_;exact⟨_,aF _,rfl⟩
theorem Vm (ha:a<l.length)(r:Nat)(H:aA)(hb:H r=some (jc l a))(hl:l.length<=1000000000):aN g 198 [.ep r 0 3 0 0] H λd H'=>d=.val (.int .u8 (l[a].toNat:Int))/\H'=H.aU r (jc l (a+1)):=by
 have e:=hb;unfold jc at e;have f:=lm bD l;have q:aN g 265 [.rp [.ep r 0 3 0 0]] H λd H'=>d=.eO [.val (.int .u8 (l[a].toNat:Int)),i64 (a+1:Nat),i64 0]/\H=H':=by
  have w:=nF ((a:Int)=(l.length:Int));have u:(l.map bD)[a]?=some [.val (.int .u8 (l[a].toNat:Int))]:=by rw[bg,az ha];rfl
  have v:=aX a;have j:=aZ a;have m:(a:Int)<(l.length:Int):=by omega
  have A:=wS a;refine dO func265 ntmps265 results265 λz t Q h=>?_;refine t0 ?_;intro U Y O C;refine dE (λ_ _ _ _=>False) λU Y=>?_;refine dst (av e f) ?_;intro U Y O C;refine tq w ?_;intro U Y O C;refine dE (λ_ _ _ _=>False) λU Y=>?_;refine dst (bG e f u v j ha m A) ?_;intro U Y O C;refine u0 h ?_;exact⟨_,aF _,rfl⟩
 refine dO func198 ntmps198 results198 λz t Q h=>?_;refine t0 ?_;intro U Y O C;intro B e;refine Y _ ?_;refine cm 1 e ?_;refine t0 ?_;intro U Y O C;refine(TT l a (a+1) r _ _ _ (.val (.int .u8 (l[a].toNat:Int))) hb q).mono ?_;rintro d _ ⟨rfl,rfl⟩;refine u0 h ?_;exact⟨_,aF _,rfl⟩
theorem X2 (ha:a+n<=l.length)(r:Nat)(H:aA)(hb:H r=some (jc l a))(hl:l.length<=1000000000):aN g 195 [.ep r 0 3 0 0,i64 n] H λd H'=>d=.seq 1 (((l.drop a).take n).map bD)/\H'=H.aU r (jc l (a+n)):=by
 have e:=hb;unfold jc at e;have f:=lm bD l;have w:aN g 263 [.rp [i64 n],.rp [.ep r 0 3 0 0]] H λd H'=>d=.eO [.seq 1 (((l.drop a).take n).map bD),i64 (a+n:Nat),i64 0]/\H=H':=by
  have D:=nF ((n:Int)<0);have G:IntKind.i64.wrap ((l.length:Int) - (a:Int))=(l.length:Int) - a:=aP (by omega);have E:=nF ((l.length:Int) - (a:Int)<(n:Int));have u:IntKind.i64.wrap ((a:Int)+(n:Int))=((a+n:Nat):Int):=by rw[aP (by omega)];omega
  have B:=aX a;have t:((a+n:Nat):Int).toNat=a+n:=aX _;have m:List.drop a (List.take (a+n) (l.map bD))=((l.drop a).take n).map bD:=by rw[List.drop_take,Nat.add_sub_cancel_left,iK,List.map_drop]
  refine dO func263 ntmps263 results263 λF z Q j=>?_;refine tq D ?_;intro U Y O C;refine dE (λ_ _ _ _=>False) λU Y=>?_;refine dst (cA e f G E) ?_;intro U Y O C;refine t0 ?_;intro U Y O C;refine dE (λ_ _ d A=>A=.none/\d=.seq 1 (((l.drop a).take n).map bD)) λU Y=>?_;refine dst (eP e f u B t m) ?_;intro U Y O C;refine⟨by omega,by omega,by omega,an λh v=>sB _ h (by rw[aS,bX];omega),?_⟩;refine dst (av e u) ?_;intro U Y O C;refine u0 j ?_;exact⟨_,aF _,rfl⟩
 refine dO func195 ntmps195 results195 λF z Q j=>?_;refine t0 ?_;intro U Y O C;intro I e J q;refine Y _ ?_;refine uB 2 3 e q ?_;refine t0 ?_;intro U Y O C;refine(TV l a (a+n) r _ _ _ (.seq 1 (((l.drop a).take n).map bD)) hb w).mono ?_;rintro d _ ⟨rfl,rfl⟩;refine u0 j ?_;exact⟨_,aF _,rfl⟩
theorem ZV (h:zV l a n b)(r:Nat)(H:aA)(hb:H r=some (jc l a))(hl:l.length<=1000000000)(hm:n<=aEY)(f:aEY<=9223372036854775807)(hn:b+n<=l.length):aN prog 120 [.ep r 0 3 0 0,i64 aEY] H λd H'=>d=.val (.string (dg ((l.drop b).take n)))/\H'=H.aU r (jc l (b+n)):=by
 have e:=ru ((l.drop b).take n);refine dO func120 ntmps120 results120 λm j Q g=>?_;refine t0 ?_;intro U Y O C;refine(ou h r _ hb hl hm f (by omega)).mono ?_;rintro d _ ⟨rfl,rfl⟩;refine t0 ?_;intro U Y O C;refine(X2 hn r _ (aK _ _ _) hl).mono ?_;rintro d _ ⟨rfl,rfl⟩;refine ur g e trivial ?_;exact⟨_,aF _,rfl⟩
theorem JA (l:List UInt8)(a r:Nat)(H:aA)(hb:H r=some (jc l a)):aN prog 122 [.ep r 0 3 0 0] H λd H'=>d=i64 0/\H=H':=by
 unfold jc at hb;refine dO func122 ntmps122 results122 λg f Q e=>?_;refine ur e hb trivial ?_;exact⟨_,aF _,rfl⟩
theorem Nk (l:List UInt8)(r:Nat)(H:aA)(hb:H r=some (jc l l.length))(hl:l.length<=1000000000):aN f 123 [.ep r 0 3 0 0] H λd H'=>d=i64 0/\H=H':=by
 have t:=JA l _ r H hb;have e:=hb;unfold jc at e;have j:=lm bD l;have v:IntKind.i64.wrap ((l.length:Int) - (l.length:Int))=0:=by rw[aP (by omega)];omega
 have h:aN f 196 [.ep r 0 3 0 0] H λd H'=>d=i64 0/\H=H':=by
  refine dO func196 ntmps196 results196 λu m Q g=>?_;refine tq e ?_;intro U Y O C;refine dE (λ_ _ _ _=>False) λU Y=>?_;refine dst (bQ e j v) ?_;intro U Y O C;refine u0 g ?_;exact⟨_,aF _,rfl⟩
 refine dO func123 ntmps123 results123 λu m Q g=>?_;refine t0 ?_;intro U Y O C;refine t.qt ?_;intro U Y O C;refine h.q ?_;refine u0 g ?_;exact⟨_,aF _,rfl⟩
def ox (s:ByteArray):List UInt8:=put s.size++s.data.toList
def nD (l:List ByteArray):List UInt8:=put l.length++l.flatMap ox
theorem LJ {l:List ByteArray}(h:i<l.length):∃r,nD l=put l.length++(l.take i).flatMap ox++(ox l[i]++r)/\put l.length++(l.take (i+1)).flatMap ox=put l.length++(l.take i).flatMap ox++ox l[i]:=by
 refine⟨(l.drop (i+1)).flatMap ox,?_,?_⟩
 ·have e:l=l.take i++l[i]::l.drop (i+1):=by rw[qz,ga]
  have d:l.flatMap ox=(l.take i++l[i]::l.drop (i+1)).flatMap ox:=ai _ e;unfold nD;rw[d,gb,lz,bE]
 ·rw[bw h,gb,rA,bE]
theorem L5 (l:List ByteArray)(H:aA)(hl:(nD l).length<=1000000000)(M:l.length<=1000000000):aN prog 41 [fB l] H λd H'=>d=.seq 1 ((nD l).map bD)/\H=H':=by
 have m:=lm sD l;have P:IntKind.u64.wrap (l.length:Int)=(l.length:Int):=iP (by omega);refine dO func41 ntmps41 results41 λw0 X Q I=>?_;refine tq @fB.eq_1 ?_;intro U Y O C;refine(sO _).mono ?_;rintro d T ⟨b,rfl,K⟩;refine tq (bQ @fB.eq_1 m P) ?_;intro U Y O C;refine(wB l.length (by omega) K (jY _)).mono ?_;rintro d V B;refine tn (av @fB.eq_1 m) ?_;refine aO l.length (λi s=>s.df=[]/\s.fr 3=.ep b 0 1 0 0/\s.fr 20=.seq 1 (l.map sD)/\s.fr 21=i64 l.length/\s.fr 22=i64 i/\WS H b (put l.length++(l.take i).flatMap ox) s.H) ⟨rfl,rfl,rfl,rfl,rfl,by rw[gK,nL,bz];exact B⟩ ?_;rintro i s Z ⟨u,z,f,g,h,j⟩;by_cases e:i<l.length
 case neg=>
  have F:=lF i l.length;rw[bK (by omega)] at j;refine tq (cw z f g h F) ?_;intro U Y O C;refine(BM (l:=nD l) j hl).q ?_;refine ur I trivial u ?_;exact⟨_,aF _,rfl⟩
 have J:(i:Int)<(l.length:Int):=by omega
 have F:=lT i l.length e;have R:=aX i;have A:=aZ i;have v:=fg e;have S:=wS i;obtain⟨r,w,E⟩:=LJ e;rw[E];obtain⟨t,G,N⟩:=zh l[i];have L:ox l[i]=put t.length++t:=by unfold ox;rw[G,gM,gx]
 rw[L] at w ⊢;rw[w] at hl;simp only[aV] at hl;rw[G] at v;refine tq (bG z f g h F m v (bQ R A e)) ?_;intro U Y O C;refine(Xh t j (by simp only[aV];omega)).mono ?_;rintro d W D;refine tn (cw z f g h S) ?_;exact⟨e,u,z,f,g,rfl,D⟩
def oA:ByteArray:=⟨#[102]⟩
theorem SA {el':List D}(hd:Es H H')(hb:H' b=some (.row ty o sz els))(h0:H b=none)(hi:els[i]?=some el)(hr:mz H (H'.del b) el el'):uq H H' (.ep b o sz i 0) (.rp el'):=λw v j u=>by
 have f:=Dg (k:=0) j hb hi u;rw[dj] at f;have g:eF w (H'.del b):=j.less (λc x h=>by
  by_cases e:c=b
  ·rw[e,lf] at h;cases h
  ·rwa[bL e] at h)
 simp only[D.is] at f ⊢;obtain⟨d,z,m,q,r,t⟩:=f;refine⟨d,z,m,?_,r,hr.at g t⟩;by_cases e:d=b
 ·rw[e];exact h0
 ·refine hd d ?_
  have:(H'.del b) d=none:=q;rwa[bL e] at this
theorem L4 (H:aA):aN prog 54 [.seq 1 ([1,1,102].map bD)] H λd H'=>d=.eO [fB [oA],i64 0]/\H=H':=by
 refine aq (K:=λd=>d=.eO [fB [oA],i64 0]) ?_;have x1:zV [1,1,102] 0 1 1:=⟨⟨[],[1,102],rfl,rfl,rfl⟩,by decide⟩;have x2:zV [1,1,102] 1 1 2:=⟨⟨[1],[102],rfl,rfl,rfl⟩,by decide⟩;have a0:eY oA=true:=by decide
 obtain⟨bs,P⟩:∃bs:List UInt8,bs=[1,1,102]:=⟨_,rfl⟩;have V:bs.length=3:=by rw[P];rfl
 have hs:dg ((bs.drop 2).take 1)=oA:=by rw[P];rfl
 rw[<-P] at x1 x2 ⊢;clear P;refine dO func54 ntmps54 results54 λw0 g0 Q aB=>?_;refine t0 ?_;intro U Y O C;refine(sN bs _ (by omega)).mono ?_;rintro d _ ⟨r,hr,rfl,rfl⟩;refine t0 ?_;intro U Y O C;intro z W;obtain⟨g,f⟩:=bF.1 W;refine Y _ ?_;refine t0 ?_;intro U Y O C;refine(ou x1 r _ (by rw[aJ (Ne.symm g),aK]) (by omega) (by decide) (by decide) (by omega)).mono ?_;rintro d _ ⟨rfl,rfl⟩;refine tz ?_;refine aO 1 (λi s=>s.df=[]/\s.fr 4=.ep r 0 3 0 0/\s.fr 5=.ep z 0 1 0 0/\s.fr 14=i64 1/\s.fr 15=i64 i/\H.le s.H/\∃d v,s.H z=some (.row 132 0 1 [[d]])/\v≠some r/\v≠some z/\((i=0/\s.fr 6=bC ByteArray.empty/\s.H r=some (jc bs 1)/\Gl H 9 1 [] d s.H v)\/(i=1/\s.H r=some (jc bs 3)/\Gl H 9 1 [sD oA] d s.H v))) ⟨rfl,rfl,rfl,rfl,rfl,?_,.val (.slice none 0 0),none,?_,by simp,by simp,.inl ⟨rfl,rfl,aK _ _ _,eB _ _ _ _⟩⟩ ?_
 ·exact aQ (aQ (aQ (aF _) hr) f) hr
 ·exact(aJ g).trans (aK _ _ _)
 rintro i s hi ⟨F,u,m,h,j,N,dd,v,A,I,J,(⟨rfl,T,t,X⟩|⟨rfl,t,X⟩)⟩
 ·have t1:oA.toList=[102]:=jC [102]
  have t0:ByteArray.empty.toList=[]:=jC [];have e1:Op.bytesLess oA.toList ByteArray.empty.toList=false:=by rw[Go.Proofs.bytesLess_eq,t1,t0];decide
  have e3:(oA.toList=ByteArray.empty.toList)=False:=aI (by rw[t1,t0];decide);have e4:(false||false)=false:=rfl;refine tq (cw u m T h j) ?_;intro U Y O C;refine(ZV x2 r _ t (by omega) (by decide) (by decide) (by omega)).mono ?_;rw[hs];rintro d _ ⟨rfl,rfl⟩;refine tq (bQ u m T) ?_;intro U Y O C;refine(xG oA _ (by unfold cH;decide)).mono ?_;rintro d _ ⟨rfl,rfl⟩;rw[a0];refine nx ?_;refine tq (ej u m T @bC.eq_1 e1 e3 e4) ?_;intro U Y O C;refine(JA bs 3 r _ (aK _ _ _)).q ?_;have z2:(s.H.aU r (jc bs 3)) z=some (.row 132 0 1 [[dd]]):=by rw[aJ g];exact A
  have S:H.le (s.H.aU r (jc bs 3)):=aQ N hr;have Z:Gl H 9 1 [] dd (s.H.aU r (jc bs 3)) v:=X.cM λc B=>aJ λe=>I (by rw[B,e]);refine tq (bQ u m z2) ?_;intro U Y O C;refine ax (e:=9) kR rfl kR rfl G5 rfl (by decide) S Z (new:=[sD oA]) (by exact⟨rfl,rfl⟩) (by decide) λd' H6 a2 G R M=>?_;obtain⟨z3,L⟩:=M z _ z2 J;obtain⟨z4,a1⟩:=M r _ (aK _ _ _) I;have E:=G.cells;simp only[D.cells] at E;refine eV (av z3 E) ?_;refine nx ?_;refine tq j ?_;intro U Y O C;refine⟨Nat.zero_lt_one,F,u,m,h,rfl,aQ R f,_,a2,aK _ _ _,a1,L,.inr ⟨rfl,(aJ (Ne.symm g)).trans z4,?_⟩⟩;exact G.cM λc B=>aJ λe=>L (by rw[B,e])
 ·refine tq (cA u m h j) ?_;intro U Y O C
  refine(Nk bs r _ (by rw[V];exact t) (by omega)).mono ?_;rintro d _ ⟨rfl,rfl⟩;refine ur aB m F ?_;have w:Es H s.H:=λk hk=>iY N hk;refine⟨_,aF _,N,.eO [fB [oA],i64 0],lI ⟨SA w A f rfl ⟨?_,trivial⟩,AM w,trivial⟩,rfl⟩;exact da (aA.AW N f) (X.cM λc B=>bL λe=>J (by rw[B,e]))
end Go.Proofs.YtffgfafbffdgaaaGreatDoor
