/- Lemmas and contracts of functions, several texts in one. -/
import Derived.WalkKit
import Derived.Lib.BitFns
import Derived.Test.YtelbfbioomcmeaaGreatDoorQ15
import Derived.Test.YtelbfbioomcmeaaGreatDoorQ12
set_option maxRecDepth 100000
set_option maxHeartbeats 4000000
set_option linter.all false
namespace Go.Proofs.YtelbfbioomcmeaaGreatDoor
def EM:Nat->Nat->List UInt8
 |0,_=>[]
 |k+1,n=>if n<128 then [UInt8.ofNat n] else UInt8.ofNat (n % 128+128)::EM k (n / 128)
def put (n:Nat):List UInt8:=EM 10 n
theorem Z4 (k:Nat):∀m n,n<128 ^ k->k<=m->0<k->EM k n=EM m n:=by
 induction k with
 |zero=>intro m n _ _ h;omega
 |succ k ih=>
  intro m n hn hm _
  obtain⟨m,rfl⟩:∃m',m=m'+1:=⟨m - 1,by omega⟩
  simp only[EM]
  by_cases h:n<128
  ·rw[aH h,aH h]
  ·rw[aD h,aD h]
   congr 1
   have hk:0<k:=by
    rcases k with _|k
    ·simp at hn;omega
    ·omega
   exact ih m (n / 128) (by rw[wI] at hn;omega) (by omega) hk
theorem LZ (n:Nat) (h:n<128):put n=[UInt8.ofNat n]:=by unfold put;simp only[EM];rw[aH h]
theorem R3 (n:Nat) (h:128<=n) (hn:n<18446744073709551616):put n=UInt8.ofNat (n % 128+128)::put (n / 128):=by
 have e:EM 9 (n / 128)=put (n / 128):=Z4 9 10 (n / 128) (by omega) (by omega) (by omega)
 show EM 10 n=_
 rw[<-e]
 simp only[EM]
 rw[aD (by omega)]
theorem R1 (k:Nat):∀n,n<128 ^ k->0<k->1<=(EM k n).length/\(EM k n).length<=k:=by
 induction k with
 |zero=>intro n _ h;omega
 |succ k ih=>
  intro n hn _
  simp only[EM]
  split
  ·simp
  ·have hk:0<k:=by
    rcases k with _|k
    ·simp at hn;omega
    ·omega
   have:=ih (n / 128) (by rw[wI] at hn;omega) hk
   simp;omega
theorem nN (n:Nat) (hn:n<18446744073709551616):1<=(put n).length/\(put n).length<=10:=R1 10 n (by omega) (by omega)
end Go.Proofs.YtelbfbioomcmeaaGreatDoor
namespace Go.Proofs.YtelbfbioomcmeaaGreatDoor
open Go.RowKit
open Tryz
theorem aBA {P:Program} {f:FuncId} {us:List Value} {v:Value} (he:XP P f) (h:∀w,Calls P f us.toArray w fun e w'=>e=.returned v/\w=w'):aT P f (us.map .val) .none fun d _=>d=.val v:=
 And.intro he fun w vs sN hH _=>by
  have:vs=us:=by
   clear h
   induction us generalizing vs with
   |nil=>simpa only[pM,aW] using sN
   |cons u us ih=>
    simp only[fT,aW,D.is] at sN
    obtain⟨_,DV,rfl,rfl,h2⟩:=sN
    rw[ih DV h2]
  subst this
  refine(h w).mono ?_
  rintro e w' ⟨rfl,rfl⟩
  exact⟨v,.val v,.none,rfl,pA _,hH,gC _ _,rfl⟩
theorem aHs (n:Nat) (H:aA) (hn:n<18446744073709551616):aT prog 198 [.val (.int .u64 n)] H fun d H'=>(∃k:Nat,k<=10/\d=i64 k)/\H=H':=by
 have aR:=aE H
 have e1:bits .or .u64 (n:Int) 1=((n|||1:Nat):Int):=u64_or_nat n 1 hn (by omega)
 have gL:n|||1<2 ^ 64:=Nat.or_lt_two_pow hn (by omega)
 have hb:=Lib.bitLen_le (n|||1) 64 (by omega) gL
 have hc:aT prog 287 [.val (.int .u64 (n|||1:Nat))] H fun d H'=>d=i64 (Lib.bitLen (n|||1))/\H=H':=
  yE (aBA (us:=[.int .u64 ((n|||1:Nat):Int)]) (tZ func287 rfl rfl) fun w=>ZS ((n|||1:Nat):Int) w (by omega) (by omega)) rfl (aQt (nG _ _))
 generalize Lib.bitLen (n|||1)=L at hb hc
 have w1:IntKind.i64.wrap ((L:Int)+6)=(L:Int)+6:=aY (by omega)
 have w2:IntKind.i64.wrap (((L:Int)+6).tdiv 7)=(((L+6) / 7:Nat):Int):=by
  have:((L:Int)+6).tdiv 7=(((L+6) / 7:Nat):Int):=by rw[Int.tdiv_eq_ediv_of_nonneg (by omega)];omega
  rw[this,aY (by omega)]
 refine aN _ _ func198 rfl rfl ntmps198 results198 (by simp) fun w0 g0 Q aC=>?_
 refine tq e1 ?_;intro Nx aB Gx aG
 refine hc.mono ?_
 rintro d _ ⟨rfl,rfl⟩
 refine tq (cZ w1 w2) ?_;intro Nx aB Gx aG
 refine rt aC trivial ?_
 exact⟨_,aE _,⟨_,by omega,rfl⟩,rfl⟩
theorem aJ8 (m:Nat):bits .or .u8 ((m:Int) % (256:Int)) 128=(((UInt8.ofNat (m % 128+128)).toNat:Nat):Int):=by
 rw[show(m:Int) % (256:Int)=((m % 256:Nat):Int) by omega,show(128:Int)=((128:Nat):Int) by rfl,u8_or_nat _ _ (by omega) (by omega),yJ]
 congr 1
 have h:∀j:Fin 256,j.val|||128=(j.val % 128+128) % 2 ^ 8:=by decide+kernel
 have:=h ⟨m % 256,by omega⟩
 simp only at this
 rw[this]
 omega
theorem aFk (n:Nat) (H:aA) (hn:n<18446744073709551616):aT prog 105 [.val (.int .u64 n)] H fun d H'=>d=.seq 1 ((put n).map bD)/\H=H':=by
 refine bM (K:=fun d=>d=.seq 1 ((put n).map bD)) ?_
 have IP:=nN n hn
 refine aN _ _ func105 rfl rfl ntmps105 results105 (by simp) fun w0 g0 Q aC=>?_
 refine tq trivial ?_;intro Nx aB Gx aG
 refine(aHs n _ hn).mono ?_
 rintro d _ ⟨⟨k,hk,rfl⟩,rfl⟩
 refine tq trivial ?_;intro Nx aB Gx aG
 refine⟨by omega,by omega,by omega,fun b hb=>?_⟩
 refine tq trivial ?_;intro Nx aB Gx aG
 refine bB 10 (fun i s=>s.df=[]/\∃(pre:List UInt8) (x:Nat) (d:D) (ob:Option Nat),pre.length=i/\put n=pre++put x/\x<18446744073709551616/\s.fr 0=.val (.int .u64 x)/\s.fr 3=d/\Gl H 5 1 (pre.map bD) d s.H ob/\H.le s.H) ⟨rfl,[],n,_,some b,rfl,rfl,hn,rfl,rfl,.inr ⟨b,0,rfl,rfl,hb,aQ _ _ _⟩,bQ (aE _) hb⟩ ?_
 rintro i s hi ⟨bG,pre,x,d,ob,rfl,oA,hx,f0,f3,hg,aR⟩
 have eB:pre.length+(put x).length<=10:=by rw[<-bJ,<-oA];exact IP.2
 have hx1:=nN x hx
 by_cases h:x<128
 case neg=>
  have q:((128:Int)<=(x:Int))=True:=aK (by omega)
  have e1:[D.val (.int .u8 (bits .or .u8 (IntKind.u8.wrap (x:Int)) 128))]=bD (UInt8.ofNat (x % 128+128)):=aF0 (by rw[qK];exact aJ8 x)
  have e2:(x:Int).fdiv (2 ^ min 7 64)=((x / 128:Nat):Int):=by
   rw[show((2:Int) ^ min 7 64)=128 by decide,Int.fdiv_eq_ediv_of_nonneg _ (by omega)];omega
  have Q5:=R3 x (by omega) hx
  rw[Q5,fN] at eB
  refine tq (dZ f0 f3 q) ?_;intro Nx aB Gx aG
  refine cY (e:=5) u9 rfl u9 rfl ty5 rfl (by decide) aR hg (new:=[bD (UInt8.ofNat (x % 128+128))]) (by rw[<-e1];exact⟨rfl,rfl⟩) (by rw[bK];show(_+1) * 1<=_;omega) fun d' H6 qL kK eJ uD=>?_
  refine tq (cZ f0 e2) ?_;intro Nx aB Gx aG
  refine⟨by show pre.length<10;omega,bG,pre++[UInt8.ofNat (x % 128+128)],x / 128,d',qL,by simp,by rw[oA,Q5];simp,by omega,rfl,rfl,by rw[fI];exact kK,eJ⟩
 have q:((128:Int)<=(x:Int))=False:=aI (by omega)
 have hp:put x=[UInt8.ofNat x]:=LZ x h
 have e1:[D.val (.int .u8 (IntKind.u8.wrap (x:Int)))]=bD (UInt8.ofNat x):=aF0 (by rw[qK,yJ];omega)
 rw[hp,nT] at eB
 refine tq (dZ f0 f3 q) ?_;intro Nx aB Gx aG
 refine cY (e:=5) u9 rfl u9 rfl ty5 rfl (by decide) aR hg (new:=[bD (UInt8.ofNat x)]) (by rw[<-e1];exact⟨rfl,rfl⟩) (by rw[bK];show(_+1) * 1<=_;omega) fun d' H6 qL kK eJ uD=>?_
 refine tq trivial ?_;intro Nx aB Gx aG
 refine rt aC bG ?_
 have hm:pre.map bD++[bD (UInt8.ofNat x)]=(put n).map bD:=by rw[oA,hp,fI];rfl
 rw[hm] at kK
 exact⟨_,aE _,eJ,_,sF eJ kK,rfl⟩
theorem aCV:∀(f n:Nat),n<128 ^ f->n<18446744073709551616->∀k,∀h:k<(put n).length,((put n)[k].toNat<128↔k+1=(put n).length)/\(put n)[k].toNat % 128=n / 128 ^ k % 128/\(0<n->(put n)[k].toNat≠0)/\(k+1=(put n).length->n<128 ^ (k+1))
 |0,n,hf,_,k,h=>by
  have h0:n=0:=by simpa using hf
  subst h0
  have e:put 0=[0]:=rfl
  simp only[e,nT] at h ⊢
  have:k=0:=by omega
  subst this
  simp
 |f+1,n,hf,hn,k,h=>by
  by_cases hs:n<128
  ·have e:=LZ n hs
   have e2:(UInt8.ofNat n).toNat=n:=by rw[yJ];omega
   have hk:k=0:=by rw[e,nT] at h;omega
   subst hk
   have h1:(put n)[0].toNat=n:=by simp only[e,O5,e2]
   have h2:(put n).length=1:=by rw[e];rfl
   rw[h1,h2,Nat.pow_zero,Nat.div_one]
   exact⟨by omega,rfl,by omega,by omega⟩
  ·have e:=R3 n (by omega) hn
   have hl:=nN (n / 128) (by omega)
   simp only[e,fN] at h ⊢
   cases k with
   |zero=>
    have e2:(UInt8.ofNat (n % 128+128)).toNat=n % 128+128:=by rw[yJ];omega
    simp only[O5,e2,Nat.pow_zero,Nat.div_one]
    omega
   |succ k=>
    obtain⟨h1,h2,h3,h4⟩:=aCV f (n / 128) (by rw[wI] at hf;omega) (by omega) k (by omega)
    simp only[List.getElem_cons_succ]
    refine⟨by omega,?_,fun _=>h3 (by omega),fun hk=>?_⟩
    ·rw[h2,Nat.div_div_eq_div_mul,wI,Nat.mul_comm]
    ·have:=h4 (by omega)
     rw[wI];omega
theorem aGG (c:UInt8):bits .and .u8 (c.toNat:Int) 127=((c.toNat % 128:Nat):Int):=by
 have h:=c.toNat_lt
 have:∀n:Fin 256,bits .and .u8 ((n.val:Nat):Int) 127=((n.val % 128:Nat):Int):=by decide
 exact this ⟨c.toNat,by omega⟩
theorem aHd (n m k:Nat) (hn:n<2 ^ k):n|||m * 2 ^ k=n+m * 2 ^ k:=by
 have h:=Nat.shiftLeft_add_eq_or_of_lt hn m
 rw[Nat.shiftLeft_eq] at h
 rw[Nat.or_comm,<-h,Nat.add_comm]
theorem aAX (n k:Nat) (c:UInt8) (hk:k<=9) (hn:n<18446744073709551616) (hc:c.toNat % 128=n / 128 ^ k % 128):
  bits .or .u64 ((n % 128 ^ k:Nat):Int) (IntKind.u64.wrap (IntKind.u64.wrap ((c.toNat % 128:Nat):Int) * 2 ^ min (IntKind.i64.wrap (7 * (k:Int))).toNat 64))=((n % 128 ^ (k+1):Nat):Int):=by
 have hp:(128:Nat) ^ k=2 ^ (7 * k):=by rw[Nat.pow_mul]
 have e0:IntKind.i64.wrap (7 * (k:Int))=((7 * k:Nat):Int):=by rw[aY (by omega)];omega
 have hm:min (((7 * k:Nat):Int)).toNat 64=7 * k:=by omega
 have e1:n % 128 ^ (k+1)=n % 128 ^ k+(c.toNat % 128) * 128 ^ k:=by rw[wI,Nat.mod_mul,hc,Nat.mul_comm (128 ^ k)]
 have aR:n % 128 ^ (k+1)<=n:=Nat.mod_le _ _
 have gL:n % 128 ^ k<2 ^ (7 * k):=by rw[<-hp];exact Nat.mod_lt _ (Nat.pow_pos (by omega))
 have e2:IntKind.u64.wrap (((c.toNat % 128:Nat):Int) * 2 ^ (7 * k))=((c.toNat % 128 * 128 ^ k:Nat):Int):=by
  have:((c.toNat % 128:Nat):Int) * 2 ^ (7 * k)=((c.toNat % 128 * 128 ^ k:Nat):Int):=by rw[hp];simp
  rw[this]
  generalize c.toNat % 128 * 128 ^ k=m at *
  exact j6 (by omega)
 rw[e0,hm,j6 (x:=((c.toNat % 128:Nat):Int)) (by omega),e2,u64_or_nat _ _ (by omega) (by omega),e1]
 congr 1
 rw[hp]
 exact aHd _ _ _ (Nat.mod_lt _ (Nat.two_pow_pos _))
def Y5 (p:List UInt8):List (Nat×UInt8):=(List.range p.length).map fun k=>(k,p.getD k 0)
theorem CN (p:List UInt8):(Y5 p).length=p.length:=by simp [Y5]
theorem aBW {p:List UInt8} {k:Nat} (h:k<p.length):(Y5 p).take (k+1)=(Y5 p).take k++[(k,p[k])]:=by
 rw[dH (by rw[CN];exact h)]
 simp [Y5,List.getD,h]
def gyD (x:Nat×UInt8):List D:=[i64 x.1,.val (.int .u8 (x.2.toNat:Int))]
theorem aBV (b:List UInt8) (H:aA):aT prog 292 [.seq 1 (b.map bD)] H fun d H'=>d=.fn 369 [.rp [.seq 1 (b.map bD)]]/\H=H':=by
 refine aN _ _ func292 rfl rfl ntmps292 results292 (by simp) fun w0 g0 Q aC=>?_
 refine tq trivial ?_;intro Nx aB Gx aG
 intro b1 sI
 refine aB _ ?_
 refine fW 1 sI ?_
 refine tq trivial ?_;intro Nx aB Gx aG
 refine rt aC trivial ?_
 exact⟨_,aE _,rfl⟩
theorem Y4 (p r:List UInt8) (hb:(p++r).length<=140737488351232) (hp:∀k,∀h:k<p.length,(p[k].toNat<128↔k+1=p.length)) (h0:0<p.length):TA prog 369 [.rp [.seq 1 ((p++r).map bD)]] gyD (Y5 p) fun _=>True:=by
 obtain⟨bs,hB⟩:∃bs,bs=p++r:=⟨_,rfl⟩
 have BM:∀k,∀h:k<p.length,(bs.map bD)[k]?=some [.val (.int .u8 (p[k].toNat:Int))]:=fun k h=>by
  rw[cR,hB,nS h,cP h];rfl
 have hlb:p.length<=bs.length:=by rw[hB,bJ];omega
 have cI:(bs.map bD).length=bs.length:=bK _
 rw[<-hB] at hb ⊢
 clear hB
 refine N3 _ func369 rfl rfl ntmps369 results369 (by simp) fun l J Jx H w0 g0 Q eX hJ hY aC=>?_
 refine tq cI ?_;intro Nx aB Gx aG
 refine bB p.length (fun k s=>s.df=[]/\s.fr 0=yD l/\s.fr 5=.seq 1 (bs.map bD)/\s.fr 6=i64 bs.length/\s.fr 7=i64 k/\k<p.length/\J ((Y5 p).take k) s.H) ⟨rfl,rfl,rfl,rfl,rfl,h0,hJ⟩ ?_
 rintro k s hk ⟨bG,f0,f5,f6,f7,F8,hj⟩
 have q1:=lT k bs.length (by omega)
 have hx:=bL k
 have cL:=bY k
 have hkb:k<bs.length:=by omega
 have aX0:(k:Int)<(bs.length:Int):=by omega
 have hg:=BM k F8
 have S4:=hp k F8
 obtain⟨c,hc⟩:∃c,c=p[k]:=⟨_,rfl⟩
 have uX:=aBW F8
 rw[<-hc] at hg S4 uX
 have w3:=wS k (by omega)
 (have fs:=And.intro f0 (And.intro f5 (And.intro f6 (And.intro f7 (And.intro q1 (And.intro hg (And.intro hx (And.intro cL (And.intro hkb (And.intro aX0 cI)))))))));(iterate 10 (first|refine aG _ ?_|refine aB _ ?_|refine cX ?_|refine cW ?_|refine eH ?_|refine cF ?_|refine cG ?_|refine cC ?_|refine bO ?_|((first|refine tS fun Nx aB=>?_|refine mE rfl rfl (by kernel_rfl) (by kernel_rfl) fun Gx aG=>?_|refine cD (by kernel_rfl) ?_|refine lJ fun A B vJ vK=>?_);refine yR ?_;(first|refine aG _ ?_|refine aB _ ?_|refine vJ ?_|refine vK ?_|skip))));(try clear fs))
 (have fs:=f0;refine VD (3) (by kernel_rfl) ?_;refine CL ?_;(try clear fs))
 have hjn:(Y5 p).take k++[(k,c)]<+:Y5 p:=by rw[<-uX];exact List.take_prefix _ _
 refine tF rfl (pW ((Y5 p).take k) (k,c) rfl rfl rfl (by simp [BS]) hY hjn hj rfl (fun H' JZ=>?_) fun H' JZ=>?_)
 ·rw[<-uX] at JZ
  by_cases NS:c.toNat<128
  ·have q2:((c.toNat:Int)<128)=True:=aK (by omega)
   refine tq (cZ f0 q2) ?_;intro Nx aB Gx aG
   have:=S4.1 NS
   exact aC _ _ (.inr rfl) bG (.inl (by rw[dQ (by rw[CN];omega)] at JZ;exact JZ))
  ·have q2:((c.toNat:Int)<128)=False:=aI (by omega)
   have h2:k+1<p.length:=by
    rcases jW (k+1) p.length with h|h
    ·exact h
    ·exact absurd (S4.2 (by omega)) NS
   refine tq (dZ f7 q2 w3) ?_;intro Nx aB Gx aG
   exact⟨F8,bG,f0,f5,f6,rfl,h2,JZ⟩
 ·refine tq f0 ?_;intro Nx aB Gx aG
  exact aC _ _ (.inr rfl) bG (.inr ⟨_,JZ⟩)
theorem aDj {p:List UInt8} {ys:List (Nat×UInt8)} {x:Nat×UInt8} (h:(ys++[x])<+:Y5 p):∃h:ys.length<p.length,x=(ys.length,p[ys.length]):=by
 have hl:=h.length_le
 rw[CN,bJ,nT] at hl
 refine⟨by omega,?_⟩
 have hg:(Y5 p)[ys.length]?=some x:=by
  obtain⟨t,ht⟩:=h
  rw[<-ht];simp
 have hk:ys.length<p.length:=by omega
 rw[cP (by rw[CN];exact hk)] at hg
 injection hg with hg
 rw[<-hg]
 simp [Y5,List.getD,hk]
theorem aIa (pre r:List UInt8) (n:Nat) (hn:n<18446744073709551616) (hl:(pre++(put n++r)).length<=140737488351232):aT prog 201 [.seq 1 ((pre++(put n++r)).map bD),i64 pre.length] .none fun d _=>d=.fV [.val (.int .u64 n),i64 (pre.length+(put n).length:Nat),i64 0]:=by
 have IP:=nN n hn
 have hpa:=aCV 10 n (by omega) hn
 obtain⟨bs,hB⟩:∃bs,bs=pre++(put n++r):=⟨_,rfl⟩
 have KE:List.drop pre.length (bs.map bD)=(put n++r).map bD:=by rw[hB,fI];exact List.drop_left' (bK _)
 have nX:bs.length=pre.length+((put n).length+r.length):=by rw[hB,bJ,bJ]
 have cI:(bs.map bD).length=bs.length:=bK _
 rw[<-hB] at hl ⊢
 clear hB
 have it:=Y4 (put n) r (by rw[bJ];omega) (fun k h=>(hpa k h).1) (by omega)
 have p1:((pre.length:Int)<0)=False:=aI (by omega)
 have p2:((bs.length:Int)<(pre.length:Int))=False:=aI (by omega)
 have hx:(pre.length:Int).toNat=pre.length:=bL _
 refine xR _ _ func201 rfl rfl ntmps201 results201 (by simp) fun w0 g0 Q aC=>?_
 refine tq trivial ?_;intro Nx aB Gx aG
 intro b3 GQ b4 V9 b5 O8 b6 hb6
 refine aB _ ?_
 obtain⟨n43,V9⟩:=bT.1 V9
 obtain⟨n54,O8⟩:=bT.1 O8
 obtain⟨n53,O8⟩:=bT.1 O8
 obtain⟨n65,hb6⟩:=bT.1 hb6
 obtain⟨n64,hb6⟩:=bT.1 hb6
 obtain⟨n63,hb6⟩:=bT.1 hb6
 refine bS 3 rfl (b:=b3) (by simp only[kN,oH];rw[aP (Ne.symm n63),aP (Ne.symm n53),aP (Ne.symm n43),aQ]) rfl ?_
 simp only[St.gU,kN,gV,oH,lV,pK (Ne.symm n63),pK (Ne.symm n53),pK (Ne.symm n43),nV,oU GQ,List.drop]
 refine tq (dZ p1 p2 cI) ?_;intro Nx aB Gx aG
 intro b7 hb7
 refine aB _ ?_
 obtain⟨n76,hb7⟩:=bT.1 hb7
 obtain⟨n75,hb7⟩:=bT.1 hb7
 obtain⟨n74,hb7⟩:=bT.1 hb7
 obtain⟨H2,iW⟩:∃H2,H2=((((aA.none.bH b4 (.row 184 0 1 [[.val (.int .u64 0)]])).bH b5 (.row 3 0 1 [[i64 0]])).bH b6 (.row 48 0 1 [[i64 0]])).bH b7 (.row 184 0 1 [[.val (.int .u64 0)]])):=⟨_,rfl⟩
 have g4:H2 b4=some (.row 184 0 1 [[.val (.int .u64 0)]]):=by rw[iW,aP (Ne.symm n74),aP (Ne.symm n64),aP (Ne.symm n54),aQ]
 have g5:H2 b5=some (.row 3 0 1 [[i64 0]]):=by rw[iW,aP (Ne.symm n75),aP (Ne.symm n65),aQ]
 have g6:H2 b6=some (.row 48 0 1 [[i64 0]]):=by rw[iW,aP (Ne.symm n76),aQ]
 have g7:H2 b7=some (.row 184 0 1 [[.val (.int .u64 0)]]):=by rw[iW,aQ]
 simp only[i64] at iW
 rw[<-iW]
 clear iW
 refine tq (dZ hx cI KE) ?_;intro Nx aB Gx aG
 refine⟨by omega,by omega,(aBV _ _).mono ?_⟩
 rintro d _ ⟨rfl,rfl⟩
 refine tq trivial ?_;intro Nx aB Gx aG
 refine PN (fun s=>s.df=[]/\s.fr 3=.rp [i64 pre.length]/\s.fr 4=.ep b4 0 1 0 0/\s.fr 5=.ep b5 0 1 0 0/\s.fr 6=.ep b6 0 1 0 0/\s.fr 7=.ep b7 0 1 0 0/\s.fr 21=.fn 369 [.rp [.seq 1 ((put n++r).map bD)]]/\s.H=H2) ⟨rfl,rfl,rfl,rfl,rfl,rfl,rfl,rfl⟩ ?_
 rintro s ⟨bG,f3,f4,f5,f6,f7,f21,hsH⟩
 refine pX rfl it f21 (fun _ _=>trivial) (by simp) (fun _=>rfl) (fun ys Hc=>ys.length<(put n).length/\Hc b4=some (.row 184 0 1 [[.val (.int .u64 0)]])/\Hc b5=some (.row 3 0 1 [[i64 0]])/\Hc b6=some (.row 48 0 1 [[i64 0]])/\Hc b7=some (.row 184 0 1 [[.val (.int .u64 ((n % 128 ^ ys.length:Nat):Int))]])) (fun e ys Hc=>e=.ret/\Hc b4=some (.row 184 0 1 [[.val (.int .u64 n)]])/\Hc b5=some (.row 3 0 1 [[i64 (pre.length+(put n).length:Nat)]])/\Hc b6=some (.row 48 0 1 [[i64 0]])) ?_ ?_ ?_ ?_ ?_ ?_
 ·rintro ys H1 H3 hr ⟨h0,h1,h2,h3,h4⟩
  exact⟨h0,hr _ _ h1 (by simp),hr _ _ h2 (by simp),hr _ _ h3 (by simp),hr _ _ h4 (by simp)⟩
 ·rintro e ys H1 H3 hr ⟨h0,h1,h2,h3⟩
  exact⟨h0,hr _ _ h1 (by simp),hr _ _ h2 (by simp),hr _ _ h3 (by simp)⟩
 ·rw[hsH]
  exact⟨by show 0<_;omega,g4,g5,g6,by rw[g7];simp⟩
 ·rintro l w1 ys x Hc o g1 oA ⟨hyl,h4,h5,h6,h7⟩ rU s7
  obtain⟨hk,rfl⟩:=aDj oA
  obtain⟨k,QW⟩:∃k,ys.length=k:=⟨_,rfl⟩
  obtain⟨a1,a2,a3,a4⟩:=hpa ys.length hk
  obtain⟨c,hc⟩:∃c,c=(put n)[ys.length]:=⟨_,rfl⟩
  rw[<-hc] at a1 a2 a3 ⊢
  simp only[QW] at hk a1 a2 a3 a4 hc hyl h7 ⊢
  rw[gyD,aHn]
  refine tq (gE fH fM eQ cB bG) ?_;intro Nx aB Gx aG
  simp only[fL]
  refine⟨rfl,rV _,fun w2 y g2=>?_⟩
  have ne:∀b t e,Hc b=some (.row t 0 1 e)->b≠l:=fun b t e h h2=>by rw[h2,s7] at h;cases h
  have r4:=(aP (x:=.obj y) (ne _ _ _ h4)).trans h4
  have r5:=(aP (x:=.obj y) (ne _ _ _ h5)).trans h5
  have r6:=(aP (x:=.obj y) (ne _ _ _ h6)).trans h6
  have r7:=(aP (x:=.obj y) (ne _ _ _ h7)).trans h7
  have w9:=rV (Hc.bH l (.obj y))
  have aXY:k<=9:=by omega
  have o9:=aAX n k c aXY hn a2
  have l9:k=9->c.toNat<=1:=fun e=>by
   subst e
   have h1:n / 128 ^ 9<=1:=by omega
   have h2:=a1.2 (by omega)
   omega
  have CP:c.toNat=0->k=0:=fun e=>Decidable.byContradiction fun yW=>by
   have WE:n=0:=Decidable.byContradiction fun h=>a3 (by omega) e
   rw[WE] at hk
   simp [put,EM] at hk
   omega
  refine cC ?_
  refine bO ?_
  refine MK (fun s1=>s1.df=[]/\s1.fr 3=.rp [i64 pre.length]/\s1.fr 4=.ep b4 0 1 0 0/\s1.fr 5=.ep b5 0 1 0 0/\s1.fr 6=.ep b6 0 1 0 0/\s1.fr 7=.ep b7 0 1 0 0/\s1.fr 8=i64 k/\s1.fr 9=.val (.int .u8 (c.toNat:Int))/\s1.H=Hc.bH l (.obj y)) ?_ ?_
  ·rcases jW k 9 with hk9|hk9
   ·have q1:((k:Int)=9)=False:=aI (by omega)
    rcases zT c.toNat with e0|e0
    ·have q2:((c.toNat:Int)=0)=True:=aK (by omega)
     have q3:((0:Int)<(k:Int))=False:=aI (by have:=CP e0;omega)
     refine tq (lM fH fM eQ cB q1 q2 q3) ?_;intro Nx aB Gx aG
     exact⟨rfl,f3,f4,f5,f6,f7,rfl,rfl,rfl⟩
    ·have q2:((c.toNat:Int)=0)=False:=aI (by omega)
     refine tq (jA fH fM eQ cB q1 q2) ?_;intro Nx aB Gx aG
     exact⟨rfl,f3,f4,f5,f6,f7,rfl,rfl,rfl⟩
   ·have q1:((k:Int)=9)=True:=aK (by omega)
    have q2:((c.toNat:Int)=0)=False:=aI fun h=>by have:=CP (by omega);omega
    have q3:((1:Int)<(c.toNat:Int))=False:=aI (by have:=l9 (by omega);omega)
    refine tq (lM fH fM eQ cB q1 q2 q3) ?_;intro Nx aB Gx aG
    exact⟨rfl,f3,f4,f5,f6,f7,rfl,rfl,rfl⟩
  clear f3 f4 f5 f6 f7
  rintro s1 ⟨e1,f3,f4,f5,f6,f7,f8,f9,e2⟩
  have aWn:=aGG c
  refine bO ?_
  refine wE (fun _=>false) (fun _=>false) (fun _ _ _ _=>False) (fun _ _ _ _ _=>False) fun Nx aB=>?_;have fs:=And.intro f7 (And.intro f8 (And.intro f9 (And.intro e2 (And.intro r7 (And.intro aWn o9)))));refine VV ?_;(first|refine aG _ ?_|refine aB _ ?_|skip);(try clear fs)
  refine⟨by rw[aY (by omega)];omega,aB _ ?_⟩
  have u47:∀H x,(aA.bH H b7 x) b4=H b4:=fun _ _=>aP (Ne.symm n74)
  have u57:∀H x,(aA.bH H b7 x) b5=H b5:=fun _ _=>aP (Ne.symm n75)
  have u67:∀H x,(aA.bH H b7 x) b6=H b6:=fun _ _=>aP (Ne.symm n76)
  have u54:∀H x,(aA.bH H b4 x) b5=H b5:=fun _ _=>aP n54
  have u64:∀H x,(aA.bH H b4 x) b6=H b6:=fun _ _=>aP n64
  have u65:∀H x,(aA.bH H b5 x) b6=H b6:=fun _ _=>aP n65
  have u46:∀H x,(aA.bH H b6 x) b4=H b4:=fun _ _=>aP (Ne.symm n64)
  have u56:∀H x,(aA.bH H b6 x) b5=H b5:=fun _ _=>aP (Ne.symm n65)
  have u45:∀H x,(aA.bH H b5 x) b4=H b4:=fun _ _=>aP (Ne.symm n54)
  have aBg:=w9.row (x:=.row 184 0 1 [[.val (.int .u64 ((n % 128 ^ (k+1):Nat):Int))]]) r7 (by simp)
  obtain⟨H5,hH5⟩:∃H5,H5=(Hc.bH l (.obj y)).bH b7 (.row 184 0 1 [[.val (.int .u64 ((n % 128 ^ (k+1):Nat):Int))]]):=⟨_,rfl⟩
  have z4:H5 b4=some (.row 184 0 1 [[.val (.int .u64 0)]]):=by rw[hH5,u47];exact r4
  have z5:H5 b5=some (.row 3 0 1 [[i64 0]]):=by rw[hH5,u57];exact r5
  have z6:H5 b6=some (.row 48 0 1 [[i64 0]]):=by rw[hH5,u67];exact r6
  have z7:H5 b7=some (.row 184 0 1 [[.val (.int .u64 ((n % 128 ^ (k+1):Nat):Int))]]):=by rw[hH5];exact aQ _ _ _
  rw[<-hH5] at aBg ⊢
  by_cases NS:c.toNat<128
  ·have q1:((c.toNat:Int)<128)=True:=aK (by omega)
   have F8:k+1=(put n).length:=a1.1 NS
   have hnn:n % 128 ^ (k+1)=n:=wC (a4 F8)
   have w3:IntKind.i64.wrap (IntKind.i64.wrap ((pre.length:Int)+(k:Int))+1)=((pre.length+(put n).length:Nat):Int):=by rw[aY (x:=(pre.length:Int)+(k:Int)) (by omega),aY (by omega)];omega
   rw[hnn] at z7
   have ZE:mC (Hc.bH l (.obj y)) (H5.del b7):=fun c o e=>by
    have h:=aBg c o e
    rw[bP (fun e2=>by rw[e2,z7] at h;cases h)];exact h
   refine tq (cZ f9 q1) ?_;intro Nx aB Gx aG
   refine bS 7 f7 z7 rfl ?_
   simp only[St.gU,kN,oN,gV,l4,List.drop]
   have y4:=(bP (H:=H5) (Ne.symm n74)).trans z4
   have y5:=(bP (H:=H5) (Ne.symm n75)).trans z5
   have y6:=(bP (H:=H5) (Ne.symm n76)).trans z6
   obtain⟨H6,hH6⟩:∃H6,H6=H5.del b7:=⟨_,rfl⟩
   rw[<-hH6] at y4 y5 y6 ZE ⊢
   refine wE (fun t=>decide (t=some 48\/t=some 49)) (fun _=>false) (fun _ _ _ _=>False) (fun _ _ _ _ _=>False) fun Nx aB=>?_;have fs:=And.intro f3 (And.intro f4 (And.intro f5 (And.intro f6 (And.intro f8 (And.intro y4 (And.intro y5 (And.intro y6 (And.intro u54 (And.intro u64 (And.intro u65 (And.intro u45 (And.intro u46 (And.intro u56 w3)))))))))))));refine VV ?_;(first|refine aG _ ?_|refine aB _ ?_|skip);(try clear fs)
   rw[fL]
   refine eH ?_
   simp only[jN,jE,mD]
   exact⟨e1,((ZE.row (x:=.row 184 0 1 [[.val (.int .u64 n)]]) y4 (by simp)).row (x:=.row 3 0 1 [[i64 (pre.length+(put n).length:Nat)]]) ((u54 _ _).trans y5) (by simp)).row ((u65 _ _).trans ((u64 _ _).trans y6)) (by simp),trivial,(u46 _ _).trans ((u45 _ _).trans (aQ _ _ _)),(u56 _ _).trans (aQ _ _ _),aQ _ _ _⟩
  ·have q1:((c.toNat:Int)<128)=False:=aI (by omega)
   have F8:k+1<(put n).length:=by
    rcases jW (k+1) (put n).length with h|h
    ·exact h
    ·exact absurd (a1.2 (by omega)) NS
   refine tq (cZ f9 q1) ?_;intro Nx aB Gx aG
   simp only[iC,fK]
   exact⟨e1,aBg,by rw[bJ,QW];exact F8,z4,z5,z6,by rw[bJ,QW];exact z7⟩
 ·rintro Hc M ⟨h1,_⟩ rU hD QE
  rw[CN] at h1
  exact absurd h1 (Nat.lt_irrefl _)
 ·rintro e c ys Hc M hj ⟨rfl,h4,h5,h6⟩ rU hD QE
  have m4:b4≠M:=fun e=>by rw[e,hD] at h4;cases h4
  have m5:b5≠M:=fun e=>by rw[e,hD] at h5;cases h5
  have m6:b6≠M:=fun e=>by rw[e,hD] at h6;cases h6
  rw[D3,bG]
  (have fs:=f4;refine evG ?_;clear fs)
  refine aC _ _ (.inr rfl) ?_ ?_
  ·(have fs:=f4;refine evG ?_;clear fs)
   exact mk1 hD
  ·rw[eQ,LS]
   simp (maxSteps:=4000000) only[vX,vB,vT,vZ,nF,kA,ZV,LL,OB,lW,iR,lY,↓oL,TP,dM,TL,MM,SS,xE,wU,AF,AG,rA,oZ,qZ,m8,D.nilPtr,D.mK,D.mR,jH,SN,SU,GN,kU,qC,gY,lR,P6,Q9,RA,RE,BQ,PH,D.cells,qD,TJ,TE,AI,gJ,gG,PR,O7,pC,UK,AH,SB,jZ,TD.lZ,TD.agg,VI,CG,wW,YE,uZ,x7,x6,RK,P5,tH,BW,iV,nK,Value.oneCell',oR,oP,ne_eq,reduceCtorEq,sV,oT,fU,fE,↓reduceIte,Nat.reduceEqDiff,Int.reduceLE,Int.reduceLT,Int.reduceNeg,Int.reduceToNat,Nat.reduceAdd,Nat.reduceMul,Nat.reduceLeDiff,Nat.reduceMod,Nat.reduceSub,Int.reduceEq,Int.reduceNe,Int.reduceAdd,Int.reduceSub,Int.reduceMul,oQ,fH,fM,eQ,cB,fL,mD,fK,jE,iC,jN,jJ,jK,jI,i64,f4,f5,f6,aP m4,aP m5,aP m6,h4,h5,h6,i64]
   exact⟨_,aE _⟩
structure HM (bs:List UInt8) (a n b:Nat):Prop where
 ex:∃pre r,bs=pre++(put n++r)/\pre.length=a/\a+(put n).length=b
 lt:n<18446744073709551616
theorem HM.le {bs:List UInt8} {a n b:Nat} (h:HM bs a n b):a<b/\b<=bs.length:=by
 obtain⟨pre,r,h1,h2,h3⟩:=h.ex
 have:=nN n h.lt
 have h4:=cV List.length h1
 rw[bJ,bJ] at h4
 omega
theorem aBU {bs:List UInt8} {a n b:Nat} (h:HM bs a n b) (H:aA) (hl:bs.length<=140737488351232):aT prog 201 [.seq 1 (bs.map bD),i64 a] H fun d H'=>d=.fV [.val (.int .u64 n),i64 b,i64 0]/\H=H':=by
 obtain⟨pre,r,rfl,rfl,rfl⟩:=h.ex
 exact yE (aIa pre r n h.lt hl) rfl (aFU (nG _ _) (nG _ _))
end Go.Proofs.YtelbfbioomcmeaaGreatDoor

