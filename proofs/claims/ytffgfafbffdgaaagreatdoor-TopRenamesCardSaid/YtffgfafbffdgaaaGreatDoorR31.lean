/- Lemmas and contracts of functions, several texts in one. -/
import Derived.Test.YtffgfafbffdgaaaGreatDoorR30
set_option maxRecDepth 100000
set_option maxHeartbeats 4000000
set_option linter.all false
namespace Go.Proofs.YtffgfafbffdgaaaGreatDoor
open Go.RowKit
open Tryz
variable {x:im}{l m:List (Int×Int)}{ts:List bp}
section
variable {b:bn}
theorem J2 (l:List gq):(tf l).length<=l.length:=by
 unfold tf EK;rw[aS];exact kU _ _
theorem KG (p:gR):(I2 p).length<=1:=by unfold I2;split <;> simp
theorem UQ (t:Tb b)(hx:x∈b.bl)(k:Nat):(Er x k).length<=3002:=by
 obtain⟨c,h⟩:=t.ar x hx;unfold Er;split
 ·rename_i s e
  have i:=(c s (eh e)).1;have f:=J2 s.rv.ar;have a:=KG s.pl;unfold usS;split
  ·rw[aV,aV]
   have g:(if s.rv.k=1 then [s.rv.pl.lo] else []).length<=1:=by split <;> simp
   omega
  ·simp
 ·have f:=J2 x.tm.ar
  have a:=KG x.tm.pl;unfold Xu;rw[aV];have g:(if x.tm.k=3 then I2 x.tm.pl else if x.tm.k=4 then [x.tm.pl.lo] else []).length<=1:=by
   split
   ·exact a
   ·split <;> simp
  omega
theorem Ih (t:Tb b)(hx:x∈b.bl)(k:Nat):(DC x k).length<=3000:=by
 obtain⟨a,c⟩:=t.ar x hx;unfold DC;split
 ·rename_i s e;exact(a s (eh e)).1
 ·exact c
theorem PI (t:Tb b)(hx:x∈b.bl):TI x:=t.ok.2.2.2.2.2 x hx
theorem Qd (t:Tb b)(hx:x∈b.bl)(k:Nat):cH (oq x k).1.pr.length:=by
 obtain⟨⟨_,f⟩,_,_,a⟩:=PI t hx;unfold oq;split
 ·rename_i s e
  have c:=(f s (eh e)).1;unfold xN at c;repeat' split
  all_goals first|exact c|(unfold cH;simp)
 ·unfold xN at a
  repeat' split
  all_goals first|exact a|(unfold cH;simp)
theorem YL (t:Tb b)(hx:x∈b.bl)(k:Nat):∀a∈Mj x k,cH a.pl.pr.length:=by
 obtain⟨⟨_,f⟩,_,⟨_,h⟩,g⟩:=PI t hx;have c:∀l:List gq,(∀o∈l,yW o)->∀a∈B2 l,cH a.pl.pr.length:=λl p a ha=>by
  unfold B2 EK at ha;obtain⟨o,r,rfl⟩:=cD.1 ha;exact p o (fN.1 r).1
 intro a ha;unfold Mj at ha;split at ha
 ·rename_i s e
  obtain⟨i,j,_,n⟩:=f s (eh e);unfold acS at ha;rcases bB.1 ha with ha|ha
  ·exact c _ n a ha
  rcases bB.1 ha with ha|ha
  ·split at ha
   ·rw[bM] at ha;rw[ha];exact j
   ·cases ha
  ·split at ha
   ·rw[bM] at ha;rw[ha];exact i
   split at ha
   ·rw[bM] at ha;rw[ha];unfold cH;simp
   ·cases ha
 ·unfold acT at ha
  rcases bB.1 ha with ha|ha
  ·exact c _ h a ha
  ·split at ha
   ·rw[bM] at ha;rw[ha];exact g
   ·cases ha
theorem W7 {n:Nat}(hn:n<=20){x:Int}(h:bN n x):du x:=by unfold bN at h;unfold du;omega
theorem Sn (t:Tb b):Gn b where
 cn:=t.cn
 us:=by
  have h:(sV b).length<=(my (bu (fD b))).length * 3002:=oP λp _=>by
   unfold Ef;split
   ·rename_i h;exact UQ t (vC h.choose_spec) _
   ·simp
  rw[iw] at h;have:=t.cn;omega
 ef:=λp i k h hat=>by
  have hx:=ao h;obtain⟨c1,c2,c3⟩:=(nU t.ch).2 _ hx;refine⟨by unfold cH;omega,?_,λy hy=>W7 t.lc (Q0 t.ch hx hy),λy hy=>W7 t.lc (WJ t.ch hx hy),by have:=Ih t hx k;unfold cH;omega,Qd t hx k,λs hs hk=>?_⟩
  ·obtain⟨_,h2,_⟩:=hat
   rw[sc h] at h2;exact h2
  ·have h3:=UC (c2 s (eh hs)) hk
   rcases ZP h3.2 with h4|h4
   ·exact W7 t.lc h4
   ·rw[h4];unfold du;omega
 ta:=λx hx=>by have:=Z6 ((nU t.ch).2 x hx).2.2;omega
theorem T0 (t:Tb b):VT b where
 lv:=Sn t
 ck:=λH=>(wm b H t.sb λ_=>t.ck).mono λd H' h=>by rw[t.ch] at h;exact h
 rel:=NT (nU t.ch).1
 wt:=t.ck.wt
 rb:=by
  obtain⟨_,_,_,h4,_⟩:=DR (nU t.ch).1;intro u hu h3;obtain⟨i,hi,rfl⟩:=kV hu;have h5:=((DG.1 h4).2 i hi).rr h3;have:=t.rg;omega
 tl:=t.ck.tl
 ar:=t.ck.ar.cH
 MX:=by have:=t.rg;omega
 Qm:=t.ck.Qm
 Xp:=by have:=t.lc;omega
 lin:=λp x h=>Yv t.ch h
theorem R7 (t:Tb b):Xx b where
 ex:={
  rg:=T0 t
  ln:=λx hx s hs=>by have:=((t.ar x hx).1 s hs).2;omega
  ac:=λp x k h=>⟨⟨by have:=Ih t (vC h) k;unfold cH;omega,YL t (vC h) k⟩,Qd t (vC h) k⟩
  ll:=by have:=Of b;have:=t.cn;omega
  lp:=λl hl=>by
   obtain⟨_,x,hx,s,hs,_,_,_,e⟩:=Dw hl;rw[e];have:=((t.ar x hx).1 s hs).2;unfold cH;omega}
 lr:=λl hl=>by
  obtain⟨h1,x,hx,s,hs,k1,k2,e1,e2⟩:=Dw hl;have h2:=UC (((nU t.ch).2 x hx).2.1 s hs) k1;have h3:=(IK h2.2 k2).2;have:=t.rg;rw[e1];refine⟨by unfold bN at h3;unfold du;omega,?_⟩;unfold bN;have e:fD b=b.bl.map λx=>(x.st.length,x.tm.tg):=rfl;rw[e];omega
theorem Ua (t:Tb b)(H:aA):aN prog 12 [.agg (cu b)] H λd H'=>d=.eO [.seq 2 ((x8 b).map pD),i64 0]/\H=H':=O9 b H (R7 t)
end
theorem CV (p:gR)(H:aA)(hp:cH p.pr.length):aN prog 257 [.agg (ee p)] H λd H'=>d=i64 (gC p)/\H=H':=by
 unfold cH at hp;have t:=lm pD p.pr;refine aq (K:=λd=>d=i64 (gC p)) ?_;refine dO func257 ntmps257 results257 λw0 g0 Q u=>?_;refine tq @ee.eq_1 ?_;intro U Y O C;intro c1 T;refine Y _ ?_;refine cm 1 T ?_;by_cases g:p.lo<0
 ·have N:(p.lo<0)=True:=aG g
  have B:gC p=3:=aD g;refine ur u N trivial ?_;exact⟨_,aF _,aF _,_,aL (aF _),by rw[B]⟩
 have N:(p.lo<0)=False:=aI g;by_cases o:32<p.pr.length
 ·have Z:=nT ((p.pr.length:Int)>32)
  have B:gC p=19:=by unfold gC;rw[aC g,aD o]
  refine ur u (bQ N t Z) trivial ?_;exact⟨_,aF _,aF _,_,aL (aF _),by rw[B]⟩
 have Z:=nF ((p.pr.length:Int)>32);have B:gC p=mg p.pr:=by unfold gC;rw[aC g,aC o]
 rw[B] at u;refine tn (bQ N t Z) ?_;refine aO p.pr.length (λi s=>s.df=[]/\s.fr 1=.rp [i64 p.lo,.seq 2 (p.pr.map pD)]/\s.fr 3=i64 i/\H.le s.H/\mg p.pr=mg (p.pr.drop i)) ⟨rfl,rfl,rfl,aF _,rfl⟩ ?_;rintro i s hi ⟨j,r,v,J,a⟩;have hx:=aX i;have S:=aZ i;by_cases n:i<p.pr.length
 case neg=>
  have q1:=lF i p.pr.length;rw[cb (by omega)] at a;refine ur u (cA r v q1 t) j ?_;exact⟨_,aF _,J,_,aL J,by rw[a] <;> rfl⟩
 have P:(i:Int)<(p.pr.length:Int):=by omega
 have q1:((i:Int)<(p.pr.length:Int))=True:=aG P;have G:=wS i;have w:=s9 n;rw[zk n] at a;rcases he:p.pr[i] with⟨k,f⟩;rw[he] at a w;simp only at w;refine tq (bG r v q1 t w hx S n) ?_;intro U Y O C;intro z A;refine Y _ ?_;have R:H z=none:=by
  cases e:H z with
  |none=>rfl
  |some y=>rw[J z y e] at A;cases A
 have c:=aQ (x:=.row 117 0 2 [[i64 k,i64 f]]) J R;have I:(s.H.aU z (.row 117 0 2 [[i64 k,i64 f]])) z=some (.row 117 0 2 [[i64 k,i64 f]]):=aK _ _ _;have b:B4 (k,f)=if k≠0/\k≠1 then 14 else if k=0/\f≠0 then 2 else if f<0 then 3 else 0:=rfl
 rcases G0 (k=0) with⟨_,E,⟨rfl,g⟩|⟨rfl,g⟩⟩
 ·rcases G0 (f=0) with⟨_,f0,⟨rfl,o⟩|⟨rfl,o⟩⟩
  ·have L:=nF (f<0)
   rw[aC (λh=>h.1 g),aC (λh=>h.2 o),aC (by omega)] at b;rw[aC (λh=>h b)] at a;refine tq (ej r v G E I f0 L) ?_;intro U Y O C;exact⟨n,j,r,rfl,c,a⟩
  ·rw[aC (λh=>h.1 g),aD ⟨g,o⟩] at b
   rw[aD (by rw[b];decide),b] at a;refine ur u (eP r v G E I f0) j ?_;exact⟨_,aF _,c,_,aL c,by rw[a] <;> rfl⟩
 rcases G0 (k=1) with⟨_,V,⟨rfl,M⟩|⟨rfl,M⟩⟩
 case inr=>
  rw[aD ⟨g,M⟩] at b;rw[aD (by rw[b];decide),b] at a;refine ur u (eP r v G E I V) j ?_;exact⟨_,aF _,c,_,aL c,by rw[a] <;> rfl⟩
 rcases G0 (f<0) with⟨_,L,⟨rfl,o⟩|⟨rfl,o⟩⟩
 ·rw[aC (λh=>h.2 M),aC (λh=>g h.1),aD o] at b
  rw[aD (by rw[b];decide),b] at a;refine ur u (ej r v G E I V L) j ?_;exact⟨_,aF _,c,_,aL c,by rw[a] <;> rfl⟩
 ·rw[aC (λh=>h.2 M),aC (λh=>g h.1),aC o] at b
  rw[aC (λh=>h b)] at a;refine tq (ej r v G E I V L) ?_;intro U Y O C;exact⟨n,j,r,rfl,c,a⟩
theorem CA:∀(l m:List (Int×Int)),mg (l++m)=0->mg l=0/\mg m=0
 |[],m,h=>⟨rfl,h⟩
 |x::l,m,h=>by
  simp only[dJ,mg] at h ⊢;by_cases h1:B4 x≠0
  ·rw[aD h1] at h;exact absurd h h1
  ·rw[aC h1] at h ⊢
   exact CA l m h
theorem FE {a:Int}(h:gC ⟨a,l++m⟩=0):gC ⟨a,l⟩=0:=by
 obtain⟨b,c,e⟩:=mS h;simp only[aV] at b c;have f:=(CA l m e).1;unfold gC;rw[aC (by simp only;omega),aC (by simp only;omega)];exact f
theorem G6 {ts:List bp}{lc:List mQ}{a:Int}{x:Int×Int}(h:gC ⟨a,l++[x]⟩=0)(h2:a<lc.length):
  bJ ts lc ⟨a,l++[x]⟩=if (bJ ts lc ⟨a,l⟩).2≠0 then (0,(bJ ts lc ⟨a,l⟩).2) else gG ts (bJ ts lc ⟨a,l⟩).1 x:=by
 have f:=FE h;have c:bJ ts lc ⟨a,l++[x]⟩=tB ts (mj lc a).ty (l++[x]):=by unfold bJ;rw[aC (λk=>k h),aC (by simp only;omega)]
 have e:bJ ts lc ⟨a,l⟩=tB ts (mj lc a).ty l:=by unfold bJ;rw[aC (λk=>k f),aC (by simp only;omega)]
 rw[c,e];by_cases b:(tB ts (mj lc a).ty l).2=0
 ·rw[aC (λk=>k b),BH b]
 ·rw[aD b,BG b]
  have:=KB _ _ b;rw[<-this]
theorem se (ts:List bp)(lc:List mQ)(hw:pI ts)(hl:Gi ts lc)(ha:K3 ts):∀(n:Nat) (p:gR) (H:aA),p.pr.length=n->cH p.pr.length->aN prog 187 [.seq 5 (ts.map bS),.seq 2 (lc.map eQ),.agg (ee p)] H λd H'=>d=.eO [i64 (bJ ts lc p).1,i64 (bJ ts lc p).2]/\H=H':=by
 have r:=lm eQ lc;have al:=lm bS ts;intro n
 induction n with
 |zero=>
  rintro⟨a,l⟩ H hn hp
  have ae:l=[]:=cy hn
  subst ae
  refine aq (K:=λd=>d=.eO [i64 (bJ ts lc ⟨a,[]⟩).1,i64 (bJ ts lc ⟨a,[]⟩).2]) ?_
  have b:=aF H
  have i:=CV ⟨a,[]⟩ H hp
  obtain⟨y,s⟩:=oX (bJ ts lc ⟨a,[]⟩)
  rw[<-s]
  simp only[ee,fw] at i
  refine dO func187 ntmps187 results187 λw0 g0 Q j=>?_
  refine tq @ee.eq_1 ?_;intro U Y O C
  intro c5 M
  refine Y _ ?_
  refine cm 5 M ?_
  refine t0 ?_;intro U Y O C
  refine i.q ?_
  by_cases g:gC ⟨a,[]⟩=0
  case neg=>
   have v:(gC ⟨a,[]⟩=0)=False:=aI g;have e:y=(0,gC ⟨a,[]⟩):=s.trans (aD g);refine ur j v trivial ?_;exact zf b (by rw[e])
  have v:(gC ⟨a,[]⟩=0)=True:=aG g
  by_cases w:(lc.length:Int)<=a
  ·have S:(a≥(lc.length:Int))=True:=aG w
   have e:y=(0,3):=s.trans (by unfold bJ;rw[aC (λk=>k g)];exact aD w)
   refine ur j (bQ v S r) trivial ?_;exact zf b (by rw[e])
  have S:(a≥(lc.length:Int))=False:=aI w
  have R:0<=a/\a<lc.length:=⟨(mS g).1,by omega⟩
  have o:=R.1
  have ad:a.toNat<lc.length:=by omega
  have a1:=JJ R
  simp only[eQ] at a1
  have e:y=((mj lc a).ty,0):=s.trans (by unfold bJ;rw[aC (λk=>k g),aC w];rfl)
  refine ur j (eP v S r a1 ad o) trivial ?_;exact zf b (by rw[e])
 |succ n ih=>
  rintro⟨a,l0⟩ H hn hp
  obtain⟨l,x,rfl⟩:∃l x,l0=l++[x]:=by
   rcases List.eq_nil_or_concat l0 with h|⟨l,x,h⟩
   ·subst h;cases hn
   ·exact⟨l,x,by rw[h,List.concat_eq_append]⟩
  have ak:l.length=n:=by simpa using hn
  refine aq (K:=λd=>d=.eO [i64 (bJ ts lc ⟨a,l++[x]⟩).1,i64 (bJ ts lc ⟨a,l++[x]⟩).2]) ?_
  have b:=aF H
  have i:=CV ⟨a,l++[x]⟩ H hp
  obtain⟨y,s⟩:=oX (bJ ts lc ⟨a,l++[x]⟩)
  rw[<-s]
  obtain⟨L,hL⟩:=oX ((l++[x]).map pD)
  have I:L.length=l.length+1:=by rw[hL];simp
  have aa:L.take l.length=l.map pD:=by rw[hL,bI,<-aS pD,List.take_left]
  have a0:L[l.length]?=some (pD x):=by rw[hL,bI];simp
  simp only[ee] at i
  rw[<-hL] at i
  refine dO func187 ntmps187 results187 λw0 g0 Q j=>?_
  simp only[ee]
  rw[<-hL]
  have b3:l.length<=140737488351232:=by unfold cH at hp;simp only[aV,eE] at hp;omega
  obtain⟨m,hm⟩:=oX (gC ⟨a,l++[x]⟩)
  rw[<-hm] at i
  refine t0 ?_;intro U Y O C
  intro c5 M
  refine Y _ ?_
  refine cm 5 M ?_
  refine t0 ?_;intro U Y O C
  refine i.q ?_
  by_cases g:m=0
  case neg=>
   have v:(m=0)=False:=aI g;have e:y=(0,m):=s.trans (by rw[hm] at g ⊢;exact aD g);refine ur j v trivial ?_;exact zf b (by rw[e])
  have v:(m=0)=True:=aG g
  by_cases w:(lc.length:Int)<=a
  ·have S:(a≥(lc.length:Int))=True:=aG w
   have e:y=(0,3):=s.trans (by unfold bJ;rw[aC (λk=>k (hm.symm.trans g))];exact aD w)
   refine ur j (bQ v S r) trivial ?_;exact zf b (by rw[e])
  have S:(a≥(lc.length:Int))=False:=aI w
  have J:gC ⟨a,l++[x]⟩=0:=hm.symm.trans g
  have c:=s.trans (G6 (ts:=ts) J (by omega))
  have R:0<=a/\a<lc.length:=⟨(mS J).1,by omega⟩
  have a4:0<=x.2:=(zm (mS J).2.2 x (by simp)).2
  have q3:=nF (((l.length+1:Nat):Int)=0)
  have w3:IntKind.i64.wrap (((l.length+1:Nat):Int) - 1)=(l.length:Int):=by rw[aP (by omega)];omega
  have hx:(l.length:Int).toNat=l.length:=aX _
  have o:(0:Int)<=(l.length:Int):=aZ _
  have ag:l.length<=L.length:=by omega
  have ab:cH (⟨a,l⟩:gR).pr.length:=by unfold cH;show l.length<=_;omega
  have G:∀H1,cP prog 187 [.seq 5 (ts.map bS),.seq 2 (lc.map eQ),.agg [i64 a,.seq 2 (l.map pD)]] H1 λd A=>A=aA.none/\d=.eO [i64 (bJ ts lc ⟨a,l⟩).1,i64 (bJ ts lc ⟨a,l⟩).2]:=λH1=>an λa6 b0=>ih ⟨a,l⟩ a6 ak ab
  obtain⟨z,hz⟩:=oX (bJ ts lc ⟨a,l⟩)
  have a5:z.2=0->bN ts.length z.1:=λh=>by rw[hz] at h ⊢;exact Cp hw hl h
  rw[<-hz] at G c
  refine tq (cw v S r I q3) ?_;intro U Y O C
  refine dE (λ_ _ d A=>A=.none/\d=.eO [i64 z.1,i64 z.2]) λU Y=>?_;refine dst (eP w3 hx o aa I ag) ?_;intro U Y O C
  refine⟨by omega,G _,?_⟩
  refine dst trivial ?_;intro U Y O C
  by_cases h5:z.2=0
  case neg=>
   have q5:(z.2=0)=False:=aI h5;have e:y=(0,z.2):=c.trans (aD h5);refine ur j q5 trivial ?_;exact zf b (by rw[e])
  have q5:(z.2=0)=True:=aG h5
  rw[aC (λk=>k h5)] at c
  have u:=a5 h5
  have P:=gY u
  have aw:z.1.toNat<ts.length:=by unfold bN at u;omega
  have am:0<=z.1:=by unfold bN at u;omega
  have a3:gG ts z.1 x=if x.1=0/\(bY ts z.1).k=3 then ((bY ts z.1).e,0) else if x.1=1/\(bY ts z.1).k=4 then (if x.2<(bY ts z.1).ar.length then ((bY ts z.1).ar.getD x.2.toNat 0,0) else (0,3)) else (0,22):=rfl
  rw[a3] at c
  obtain⟨t,ht⟩:=oX (bY ts z.1)
  rw[<-ht] at P c
  have ap:t.ar.length<=1000000:=by rw[ht];exact ha _ (ni u)
  clear a3 ht G a5
  obtain⟨E,tm,tr,te,B⟩:=t
  obtain⟨k,f⟩:=x
  simp only[bS] at P
  simp only[pD] at a0
  simp only at ap c a4
  have a2:=lm iD B
  have a9:l.length<L.length:=by omega
  refine tq (cw q5 P aw am al) ?_;intro U Y O C
  intro b1 a7
  refine Y _ ?_
  refine cm 11 a7 ?_
  refine tq (eP w3 a0 hx o I a9) ?_;intro U Y O C
  intro b2 a8
  refine Y _ ?_
  refine cm 12 a8 ?_
  rcases G0 (k=0) with⟨_,T,⟨rfl,Z⟩|⟨rfl,Z⟩⟩
  ·have V:=nF (k=1)
   rcases G0 (E=3) with⟨_,q7,⟨rfl,h3⟩|⟨rfl,h3⟩⟩
   ·have e:y=(te,0):=c.trans (aD ⟨Z,h3⟩)
    refine ur j (av T q7) trivial ?_;exact zf b (by rw[e])
   ·have e:y=(0,22):=c.trans (by rw[aC (λh=>h3 h.2),aC (λh=>by omega)])
    refine ur j (bQ T q7 V) trivial ?_;exact zf b (by rw[e])
  rcases G0 (k=1) with⟨_,V,⟨rfl,g⟩|⟨rfl,g⟩⟩
  case inr=>
   have e:y=(0,22):=c.trans (by rw[aC (λh=>Z h.1),aC (λh=>g h.1)]);refine ur j (av T V) trivial ?_;exact zf b (by rw[e])
  rcases G0 (E=4) with⟨_,q8,⟨rfl,h4⟩|⟨rfl,h4⟩⟩
  case inr=>
   have e:y=(0,22):=c.trans (by rw[aC (λh=>Z h.1),aC (λh=>h4 h.2)]);refine ur j (bQ T V q8) trivial ?_;exact zf b (by rw[e])
  rw[aC (λh=>Z h.1),aD ⟨g,h4⟩] at c
  by_cases h6:f<(B.length:Int)
  ·have q9:=nF (f≥(B.length:Int))
   have N:f.toNat<B.length:=by omega
   have ac:(B.map iD)[f.toNat]?=some [i64 B[f.toNat]]:=bT N
   have e:y=(B[f.toNat],0):=c.trans (by rw[aD h6,gZ,az N] <;> rfl)
   refine ur j (bG T V q8 q9 ac a4 N a2) trivial ?_;exact zf b (by rw[e])
  ·have q9:=nT (f≥(B.length:Int))
   have e:y=(0,3):=c.trans (aC h6)
   refine ur j (cw T V q8 q9 a2) trivial ?_;exact zf b (by rw[e])
theorem KC:∀{l:List (Int×Int)}{i:Int},(tB ts i (l++m)).2=0->(tB ts i l).2=0
 |[],i,_=>rfl
 |y::l,i,h=>by
  rw[dJ] at h;by_cases h1:(gG ts i y).2=0
  ·rw[vx h1] at h ⊢;exact KC h
  ·rw[Co h1] at h;exact absurd h h1
theorem Ca {x:Int×Int}:∀{l:List (Int×Int)}{i:Int},(tB ts i l).2=0->qg ts i (l++[x])=qg ts i l++(if x.1=0 then [bY ts (tB ts i l).1] else [])
 |[],i,_=>by simp [qg,tB]
 |y::l,i,h=>by
  have h1:(gG ts i y).2=0:=eC λh1=>by rw[Co h1] at h;exact h1 h
  rw[vx h1] at h ⊢;simp only[dJ,qg];rw[Ca h,bE]
theorem IX {lc:List mQ}{p:gR}(h:(bJ ts lc p).2=0)(i:Nat):bJ ts lc ⟨p.lo,p.pr.take i⟩=tB ts (mj lc p.lo).ty (p.pr.take i)/\(tB ts (mj lc p.lo).ty (p.pr.take i)).2=0:=by
 obtain⟨b,c,e⟩:=oH h;obtain⟨a,l⟩:=p;have f:gC ⟨a,l.take i++l.drop i⟩=0:=by rw[ga];exact b
 have g:=FE f;refine⟨?_,KC (m:=l.drop i) ?_⟩
 ·unfold bJ
  simp only at c ⊢;rw[aC (λk=>k g),aC (by omega)]
 ·rw[ga,<-e];exact h
theorem JU (ts:List bp)(lc:List mQ)(p:gR)(H:aA)(hw:pI ts)(hl:Gi ts lc)(ha:K3 ts)(hp:cH p.pr.length)(M:(bJ ts lc p).2=0):aN prog 258 [.seq 5 (ts.map bS),.seq 2 (lc.map eQ),.agg (ee p)] H λd H'=>d=.seq 5 ((jN ts lc p).map bS)/\H=H':=by
 refine aq (K:=λd=>d=.seq 5 ((jN ts lc p).map bS)) ?_;have a6:jN ts lc p=qg ts (mj lc p.lo).ty p.pr:=aC λh=>h M;obtain⟨c,v⟩:=oX ((mj lc p.lo).ty);rw[a6,<-v];have B:=λi=>IX M i;rw[<-v] at B;have Z:bN ts.length c:=by rw[v];exact yj hl (oH M).2.1
 have ad:=(mS (oH M).1).2.1;have j:=lm pD p.pr;have a4:=lm bS ts;refine dO func258 ntmps258 results258 λw0 g0 Q aB=>?_;refine tq @ee.eq_1 ?_;intro U Y O C;intro c5 a1;refine Y _ ?_;refine cm 5 a1 ?_;refine tz ?_;refine aO p.pr.length (λi s=>s.df=[]/\s.fr 0=.seq 5 (ts.map bS)/\s.fr 1=.seq 2 (lc.map eQ)/\s.fr 5=.rp [i64 p.lo,.seq 2 (p.pr.map pD)]/\s.fr 8=i64 i/\H.le s.H/\∃ob,Gl H 71 5 ((qg ts c (p.pr.take i)).map bS) (s.fr 7) s.H ob) ⟨rfl,rfl,rfl,rfl,rfl,aF _,none,eB _ _ _ _⟩ ?_;rintro i s hi ⟨r,G,N,n,w,L,ob,y⟩;have hx:=aX i;have o:=aZ i;by_cases b:i<p.pr.length
 case neg=>
  have R:=lF i p.pr.length;rw[bK (by omega)] at y;refine ur aB (cA n w R j) r ?_;exact⟨_,aF _,L,_,da L y,rfl⟩
 have R:=lT i p.pr.length;have w3:=wS i;have J:=s9 b;obtain⟨e1,e2⟩:=B i;have a:qg ts c (p.pr.take (i+1))=qg ts c (p.pr.take i)++(if p.pr[i].1=0 then [bY ts (tB ts c (p.pr.take i)).1] else []):=by
  rw[bw b];exact Ca e2
 by_cases P:p.pr[i].1=0
 case neg=>
  have q7:(p.pr[i].1=0)=False:=aI P;rw[aC P,bz] at a;rw[<-a] at y;refine tn (bG n w R j J hx o (bQ b q7 w3)) ?_;exact⟨b,r,G,N,n,rfl,L,ob,y⟩
 have q7:(p.pr[i].1=0)=True:=aG P;rw[aD P] at a;have g:bN ts.length (tB ts c (p.pr.take i)).1:=IV hw _ _ Z e2;have a0:cH (⟨p.lo,p.pr.take i⟩:gR).pr.length:=by unfold cH;show(p.pr.take i).length<=_;rw[bX];omega
 have k:∀H1,cP prog 187 [.seq 5 (ts.map bS),.seq 2 (lc.map eQ),.agg [i64 p.lo,.seq 2 ((p.pr.take i).map pD)]] H1 λd A=>A=aA.none/\d=.eO [i64 (bJ ts lc ⟨p.lo,p.pr.take i⟩).1,i64 (bJ ts lc ⟨p.lo,p.pr.take i⟩).2]:=λH1=>an λS aa=>se ts lc hw hl ha _ ⟨p.lo,p.pr.take i⟩ S rfl a0;rw[e1,e2] at k;obtain⟨z,hz⟩:=oX ((tB ts c (p.pr.take i)).1);rw[<-hz] at k g a;have u:=gY g;have a8:z.toNat<ts.length:=by unfold bN at g;omega
 have a7:0<=z:=by unfold bN at g;omega
 obtain⟨t,ht⟩:=oX (bY ts z);rw[<-ht] at u a;have a5:=Ak ts (p.pr.take i) c;rw[bX] at a5;obtain⟨E,f⟩:=oX ((qg ts c (p.pr.take i)).map bS);have ab:E.length<=33:=by rw[f,aS];omega
 have V:(qg ts c (p.pr.take (i+1))).map bS=E++[bS t]:=by rw[a,bI,f];rfl
 rw[<-f] at y;clear f a;have a2:i<=p.pr.length:=by omega
 have a3:List.take i (List.map pD p.pr)=(p.pr.take i).map pD:=by rw[iK]
 simp only[bS] at u;refine tq (bG n w R j J hx o (av b q7)) ?_;intro U Y O C;refine dE (λ_ _ d A=>A=.none/\d=.eO [i64 z,i64 0]) λU Y=>?_;refine dst (bG G N n w hx o j (av a3 a2)) ?_;intro U Y O C;refine⟨by omega,k _,?_⟩;refine dst (cA G N n w) ?_;intro U Y O C;refine tq (cw G u a8 a7 a4) ?_;intro U Y O C;refine ax (e:=71) IU rfl IU rfl UO rfl (by decide) L y (new:=[bS t]) (by exact⟨rfl,rfl⟩) (by show(_+1) * 56<=_;omega) λd H6 a9 I T ac=>?_;rw[<-V] at I;refine tn (av w w3) ?_;exact⟨b,r,G,N,n,rfl,T,a9,I⟩
theorem Wi (ts:List bp)(lc:List mQ)(p:gR)(H:aA)(G:pI ts)(hl:Gi ts lc)(ha:K3 ts)(hp:cH p.pr.length):aN prog 188 [.seq 5 (ts.map bS),.seq 2 (lc.map eQ),.agg (ee p)] H λd H'=>d=.val (.bool (ml ts lc p))/\H=H':=by
 refine aq (K:=λd=>d=.val (.bool (ml ts lc p))) ?_;have L:=aF H;have r:=se ts lc G hl ha _ p H rfl hp;have z:=oF ts lc p;have e:=JU ts lc p H G hl ha hp;simp only[ee] at r e;refine dO func188 ntmps188 results188 λw0 S Q w=>?_;refine tq @ee.eq_1 ?_;intro U Y O C;intro R y;refine Y _ ?_;refine cm 5 y ?_;refine t0 ?_;intro U Y O C;refine r.q ?_;by_cases n:(bJ ts lc p).2=0
 case neg=>
  have A:((bJ ts lc p).2=0)=False:=aI n;have b:ml ts lc p=false:=by unfold ml;rw[af n,dq]
  refine ur w A trivial ?_;exact zf L (by rw[b])
 have A:((bJ ts lc p).2=0)=True:=aG n;have e:=e n;have b:ml ts lc p=(jN ts lc p).all (·.m):=by unfold ml;rw[ah n,cV]
 obtain⟨l,M⟩:=oX (jN ts lc p);rw[<-M] at z e b;have k:=lm bS l;refine tq A ?_;intro U Y O C;refine e.qt ?_;intro U Y O C;refine aO l.length (λi s=>s.df=[]/\s.fr 9=.seq 5 (l.map bS)/\s.fr 10=i64 i/\s.H=H/\l.all (·.m)=(l.drop i).all (·.m)) ⟨rfl,rfl,rfl,rfl,rfl⟩ ?_;rintro i s T ⟨j,t,h,B,a⟩;have I:=aX i;have o:=aZ i;have g:H.le s.H:=by rw[B];exact aF _
 by_cases c:i<l.length
 case neg=>
  have v:=lF i l.length;rw[cb (by omega)] at a;refine ur w (cA t h v k) j ?_;exact⟨_,aF _,g,_,aL g,by rw[b,a] <;> rfl⟩
 have v:=lT i l.length;have P:=wS i;have f:(l.map bS)[i]?=some (bS l[i]):=by rw[bg,az c];rfl
 rw[cL c,jQ] at a;obtain⟨u,E⟩:=oX l[i];rw[<-E] at f a;clear E;obtain⟨uk,N,J,Z,V⟩:=u;simp only[bS] at f;simp only at a;cases N
 ·rw[dq] at a
  refine ur w (bG t h v k f I o c) j ?_;exact zf g (by rw[b,a])
 ·rw[cV] at a
  refine tn (bG t h v k f I o (av c P)) ?_;exact⟨c,j,t,rfl,B,a⟩
theorem S7 (ts:List bp)(lc:List mQ)(p:gR)(H:aA)(N:pI ts)(hl:Gi ts lc)(ha:K3 ts)(hp:cH p.pr.length):aN prog 259 [.seq 5 (ts.map bS),.seq 2 (lc.map eQ),.agg (ee p)] H λd H'=>d=.seq 1 ((tj ts lc p).map iD)/\H=H':=by
 refine aq (K:=λd=>d=.seq 1 ((tj ts lc p).map iD)) ?_;have h:=aF H;have t:=se ts lc N hl ha _ p H rfl hp;have I:=oF ts lc p;have a:=JU ts lc p H N hl ha hp;have G:tj ts lc p=(jN ts lc p).map (·.r):=rfl;rw[G];simp only[ee] at t a;refine dO func259 ntmps259 results259 λw0 g0 Q w=>?_;refine tq @ee.eq_1 ?_;intro U Y O C;intro c5 B;refine Y _ ?_;refine cm 5 B ?_;refine t0 ?_;intro U Y O C;refine t.q ?_;by_cases v:(bJ ts lc p).2=0
 case neg=>
  have L:((bJ ts lc p).2=0)=False:=aI v;have z:jN ts lc p=[]:=aD v;refine ur w L trivial ?_;exact⟨_,aF _,h,_,iq,by rw[z] <;> rfl⟩
 have L:((bJ ts lc p).2=0)=True:=aG v;have a:=a v;obtain⟨l,R⟩:=oX (jN ts lc p);rw[<-R] at I a w;have n:=lm bS l;refine tq L ?_;intro U Y O C;refine a.qt ?_;intro U Y O C;refine aO l.length (λi s=>s.df=[]/\s.fr 10=.seq 5 (l.map bS)/\s.fr 11=i64 i/\H.le s.H/\∃P,Gl H 3 1 (((l.take i).map (·.r)).map iD) (s.fr 7) s.H P) ⟨rfl,rfl,rfl,aF _,none,eB _ _ _ _⟩ ?_;rintro i s hi ⟨j,c,f,h,P,E⟩;have V:=aX i;have A:=aZ i;by_cases b:i<l.length
 case neg=>
  have M:=lF i l.length;rw[bK (by omega)] at E;refine ur w (cA c f M n) j ?_;exact⟨_,aF _,h,_,da h E,rfl⟩
 have M:=lT i l.length;have Z:=wS i;have g:(l.map bS)[i]?=some (bS l[i]):=by rw[bg,az b];rfl
 have o:((l.take (i+1)).map (·.r)).map iD=((l.take i).map (·.r)).map iD++[iD l[i].r]:=by rw[bw b];simp only[bI,cC,fw]
 obtain⟨u,T⟩:=oX l[i];rw[<-T] at g o;simp only[bS] at g;refine tq (bG c f n M g V A b) ?_;intro U Y O C;refine ax (e:=3) fk rfl fk rfl yv rfl (by decide) h E (new:=[iD u.r]) (by exact⟨rfl,rfl⟩) (by rw[aS,aS,bX];show(_+1) * 8<=_;omega) λd H6 J k y S=>?_;rw[<-o] at k;refine tn (av f Z) ?_;exact⟨b,j,c,rfl,y,J,k⟩
theorem Fb (p:gR)(H:aA)(hp:cH p.pr.length):aN prog 117 [.agg (ee p),i64 0] H λd H'=>d=.val (.bool (pC p 0))/\H=H':=by
 refine aq (K:=λd=>d=.val (.bool (pC p 0))) ?_;have g:pC p 0=p.pr.any λx=>decide (x.1=0):=rfl;have f:=lm pD p.pr;have E:=aF H;unfold cH at hp;refine dO func117 ntmps117 results117 λL I Q w=>?_;refine tq @ee.eq_1 ?_;intro U Y O C;intro G u;refine Y _ ?_;refine cm 2 u ?_;refine tz ?_;refine aO p.pr.length (λi s=>s.df=[]/\s.fr 1=i64 0/\s.fr 2=.rp [i64 p.lo,.seq 2 (p.pr.map pD)]/\s.fr 5=i64 i/\s.H=H/\(p.pr.any λx=>decide (x.1=0))=((p.pr.drop i).any λx=>decide (x.1=0))) ⟨rfl,rfl,rfl,rfl,rfl,rfl⟩ ?_;rintro i s J ⟨e,r,k,t,y,a⟩;have z:=aX i;have h:=aZ i;have c:H.le s.H:=by rw[y];exact aF _
 by_cases b:i<p.pr.length
 case neg=>
  have o:=lF i p.pr.length;rw[cb (by omega)] at a;refine ur w (cA k t o f) e ?_;exact⟨_,aF _,c,_,aL c,by rw[g,a] <;> rfl⟩
 have o:=lT i p.pr.length;have A:=nT ((i:Int)≥0);have B:=wS i;have j:=s9 b;rw[cL b,List.any_cons] at a;by_cases n:p.pr[i].1=0
 ·have v:(p.pr[i].1=0)=True:=aG n
  rw[ah n,Bool.true_or] at a;refine ur w (bG r k t o A v f (cA j z h b)) e ?_;exact zf c (by rw[g,a])
 ·have v:(p.pr[i].1=0)=False:=aI n
  rw[af n,nq] at a;refine tn (bG r k t o A v f (cw j z h b B)) ?_;exact⟨b,e,r,k,rfl,y,a⟩
theorem We (ts:List bp)(hw:pI ts)(a3:ts.length<=1000000)(Z:∀t∈ts,t.ar.length<=140737488351232):
  ∀(P:Nat) (a:Int) (H:aA),a<P->aN prog 192 [.seq 5 (ts.map bS),i64 a] H λd H'=>d=.val (.bool (jD ts a))/\H=H':=by
 intro P
 induction P using Nat.strongRecOn with
 |ind P ih=>
  intro a H a2
  refine aq (K:=λd=>d=.val (.bool (jD ts a))) ?_
  have c:=lm bS ts
  have T:=aF H
  refine dO func192 ntmps192 results192 λw0 g0 Q z=>?_
  by_cases B:0<=a
  case neg=>
   have b:jD ts a=false:=pV.2 λh=>B h.1.1;have R:=nT (a<0);refine ur z (av c R) trivial ?_;exact zf T (by rw[b])
  have R:=nF (a<0)
  by_cases h2:a<ts.length
  case neg=>
   have b:jD ts a=false:=pV.2 λh=>h2 h.1.2;have q2:=nT ((ts.length:Int)<=a);refine ur z (bQ c R q2) trivial ?_;exact zf T (by rw[b])
  have q2:=nF ((ts.length:Int)<=a)
  have E:bN ts.length a:=⟨B,h2⟩
  have g:=gY E
  have f:=Ip hw E
  have y:=Dn.F hw a E
  have A:(bY ts a).ar.length<=140737488351232:=Z _ (ni E)
  obtain⟨t,ht⟩:=oX (bY ts a)
  unfold TP at y
  rw[<-ht] at g y A f
  obtain⟨k,tm,tr,te,e⟩:=t
  simp only[bS] at g
  simp only at A
  have v:=lm iD e
  have w:a.toNat<ts.length:=by omega
  have u:a<(ts.length:Int):=E.2
  refine tn (bQ c R q2) ?_
  refine aO e.length (λj s=>s.df=[]/\s.fr 0=.seq 5 (ts.map bS)/\s.fr 1=i64 a/\s.fr 5=i64 j/\s.H=H/\∀x∈e.take j,jD ts x=true) ⟨rfl,rfl,rfl,rfl,rfl,by simp⟩ ?_
  rintro j s hj ⟨o,J,L,M,hH,n⟩
  have r:H.le s.H:=by rw[hH];exact T
  have hx:=aX j
  have V:=aZ j
  by_cases i:j<e.length
  case neg=>
   have S:=lF j e.length;rw[bK (by omega)] at n;by_cases N:k=3
   ·have q3:(k=3)=True:=aG N
    have b:jD ts a= !tm:=by
     cases tm with
     |true=>exact pV.2 λh=>(f.1 h).1 ⟨N,rfl⟩
     |false=>exact sC.2 (f.2 ⟨(λh=>by cases h.2),λp hp=>sC.1 (n p hp)⟩)
    refine ur z (bG J L M c g B w (cA u S v q3)) o ?_;exact zf r (by rw[b])
   ·have q3:(k=3)=False:=aI N
    have b:jD ts a=true:=sC.2 (f.2 ⟨λh=>N h.1,λp hp=>sC.1 (n p hp)⟩);refine ur z (bG J L M c g B w (cA u S v q3)) o ?_;exact zf r (by rw[b])
  have S:=lT j e.length
  have w3:=wS j
  have a0:(e.map iD)[j]?=some (iD e[j]):=by rw[bg,az i];rfl
  have I:e[j]∈e:=ao i
  have a1:=y _ I
  refine tq (bG J L M c g B w (ej u v S a0 hx V i)) ?_;intro U Y O C
  refine(ih (e[j]+1).toNat (by omega) e[j] _ (by omega)).q ?_
  by_cases G:jD ts e[j]=true
  ·rw[G]
   refine tq (av M w3) ?_;intro U Y O C
   refine⟨i,o,J,L,rfl,hH,λx hx=>?_⟩
   rw[bw i] at hx
   rcases bB.1 hx with hx|hx
   ·exact n x hx
   ·rw[bM] at hx;rw[hx];exact G
  ·rw[Bool.not_eq_true] at G
   have b:jD ts a=false:=pV.2 λh=>pV.1 G ((f.1 h).2 _ I)
   rw[G]
   refine ur z trivial o ?_
   exact zf r (by rw[b])
theorem vb (p:gR)(H:aA)(hp:cH p.pr.length):aN prog 113 [.agg (ee p)] H λd H'=>d=.val (.bool (dU p))/\H=H':=by
 refine aq (K:=λd=>d=.val (.bool (dU p))) ?_;have h:=aF H;have a:=lm pD p.pr;obtain⟨y,b⟩:=oX (dU p);rw[<-b];unfold dU at b;refine dO func113 ntmps113 results113 λr o Q g=>?_;refine tq @ee.eq_1 ?_;intro U Y O C;intro n i;refine Y _ ?_;refine cm 1 i ?_;by_cases c:p.lo=0
 case neg=>
  have f:(p.lo=0)=False:=aI c;have e:y=false:=by rw[b,af c,dq]
  exact oz g f h e
 have f:(p.lo=0)=True:=aG c;by_cases k:p.pr.length=0
 ·have j:=nT ((p.pr.length:Int)=0)
  have e:y=true:=by rw[b,ah c,ah k];rfl
  exact oz g (bQ f j a) h e
 ·have j:=nF ((p.pr.length:Int)=0)
  have e:y=false:=by rw[b,af k,fq]
  exact oz g (bQ f j a) h e
theorem xH (b:bn)(p:gR)(H:aA)(ck:Ck b)(hp:cH p.pr.length):aN prog 110 [.agg (cu b),.agg (ee p)] H λd H'=>d=.eO [i64 (mB b p).1,i64 (mB b p).2]/\H=H':=by
 refine aq (K:=λd=>d=.eO [i64 (mB b p).1,i64 (mB b p).2]) ?_;have g:=aF H;have e:=se b.ty b.lc ck.wt ck.wl ck.ar _ p H rfl hp;simp only[ee] at e;unfold mB;rw[jB];refine dO func110 ntmps110 results110 λk j Q f=>?_;refine tq @ee.eq_1 ?_;intro U Y O C;intro h a i c;refine Y _ ?_;refine uB 2 3 a c ?_;refine t0 ?_;intro U Y O C;refine e.q ?_;refine u0 f ?_;exact zf g rfl
theorem Dt (b:bn)(p:gR)(H:aA)(ck:Ck b)(hp:cH p.pr.length):aN prog 111 [.agg (cu b),.agg (ee p)] H λd H'=>d=.val (.bool (ml b.ty b.lc p))/\H=H':=by
 refine aq (K:=λd=>d=.val (.bool (ml b.ty b.lc p))) ?_;have g:=aF H;have e:=Wi b.ty b.lc p H ck.wt ck.wl ck.ar hp;simp only[ee] at e;rw[jB];refine dO func111 ntmps111 results111 λk j Q f=>?_;refine tq @ee.eq_1 ?_;intro U Y O C;intro h a i c;refine Y _ ?_;refine uB 2 3 a c ?_;refine t0 ?_;intro U Y O C;refine e.q ?_;refine u0 f ?_;exact zf g rfl
theorem AU (b:bn)(o:gq)(H:aA)(ck:Ck b)(hp:yW o):aN prog 115 [.agg (cu b),.agg (db o)] H λd H'=>d=i64 (kx b o)/\H=H':=by
 refine aq (K:=λd=>d=i64 (kx b o)) ?_;have f:=aF H;have t:=xH b o.pl H ck hp;have u:=vb o.pl H hp;have J:=Fb o.pl H hp;have z:(mB b o.pl).2=0->aN prog 192 [.seq 5 (b.ty.map bS),i64 (mB b o.pl).1] H λd H'=>d=.val (.bool (jD b.ty (mB b o.pl).1))/\H=H':=λh=>by
  have:=xV ck h;exact We b.ty ck.wt ck.tl ck.ar.cH b.ty.length _ H this.2
 obtain⟨y,a⟩:=oX (kx b o);rw[<-a];unfold kx at a;obtain⟨T,Z⟩:=oX (mB b o.pl);rw[<-Z] at a t z;clear Z;obtain⟨k,p,v⟩:=o;simp only at a z;simp only[ee] at u J t;rw[jB] at t ⊢;refine dO func115 ntmps115 results115 λw0 g0 Q c=>?_;refine tq @db.eq_1 ?_;intro U Y O C;intro c2 P c3 R;refine Y _ ?_;refine uB 2 3 P R ?_;by_cases S:k<0
 ·have n:(k<0)=True:=aG S
  have e:y=14:=a.trans (aD (.inl S));exact oz c n f e
 have n:(k<0)=False:=aI S;by_cases B:4<k
 ·have G:(4<k)=True:=aG B
  have e:y=14:=a.trans (aD (.inr B));exact oz c (av n G) f e
 have G:(4<k)=False:=aI B;rw[aC (by omega)] at a;by_cases L:v=0
 case neg=>
  have s:(v=0)=False:=aI L;by_cases r:k=2
  ·have j:=nT (1<k)
   have M:(k=2)=True:=aG r;have i:=nF (k=3);refine tq (cw n G s M j) ?_;intro U Y O C;refine u.q ?_;cases hz:dU p
   ·have e:y=2:=a.trans (aD (.inr ⟨by omega,hz⟩))
    exact oz c n f e
   ·have e:y=0:=a.trans (by rw[aC (by rw[hz];rintro(⟨_,h,_⟩|⟨_,h⟩);exact h r;cases h),aC (by omega),aD (by omega)])
    exact oz c (av j i) f e
  have M:(k=2)=False:=aI r;by_cases w:k=3
  ·have j:=nT (1<k)
   have i:(k=3)=True:=aG w;refine tq (eP n G s M i j) ?_;intro U Y O C;refine u.q ?_;cases hz:dU p
   ·have e:y=2:=a.trans (aD (.inr ⟨by omega,hz⟩))
    exact oz c n f e
   rw[aC (by rw[hz];rintro(⟨_,_,h⟩|⟨_,h⟩);exact h w;cases h)] at a;by_cases I:v=1
   ·have V:(v=1)=True:=aG I
    have e:y=0:=a.trans (by rw[aC (by omega),aD (by omega)]);exact oz c (cA j i s V) f e
   ·have V:(v=1)=False:=aI I
    have e:y=3:=a.trans (aD ⟨w,L,I⟩);exact oz c (cA j i s V) f e
  have i:(k=3)=False:=aI w;have e:y=2:=a.trans (aD (.inl ⟨L,r,w⟩));exact oz c (cw n G s M i) f e
 have s:(v=0)=True:=aG L;by_cases I:1<k
 ·have j:(1<k)=True:=aG I
  refine tq (cA n G s j) ?_;intro U Y O C;refine u.q ?_;cases hz:dU p
  ·have e:y=2:=a.trans (aD (.inr ⟨by omega,hz⟩))
   exact oz c n f e
  have e:y=0:=a.trans (by rw[aC (by rw[hz];rintro(⟨h,_⟩|⟨_,h⟩);exact h L;cases h),aC (by omega),aD (by omega)]);by_cases w:k=3
  ·have i:(k=3)=True:=aG w
   exact oz c (bQ j i s) f e
  ·have i:(k=3)=False:=aI w
   exact oz c (bQ j i s) f e
 have j:(1<k)=False:=aI I;have i:=nF (k=3);rw[aC (by omega),aC (by omega),aC (by omega)] at a;refine tq (cw n G s j i) ?_;intro U Y O C;refine t.q ?_;by_cases r:T.2=0
 case neg=>
  have N:(T.2=0)=False:=aI r;have e:y=T.2:=a.trans (aD r);exact oz c N f e
 have N:(T.2=0)=True:=aG r;rw[aC (λh=>h r)] at a;by_cases A:k=0
 ·have E:(k=0)=True:=aG A
  have g:=nF (k=1);refine tq (av N E) ?_;intro U Y O C;refine(z r).q ?_;cases hc:jD b.ty T.1
  ·have e:y=22:=a.trans (aD (.inl ⟨A,hc⟩))
   exact oz c (av E g) f e
  ·have e:y=0:=a.trans (aC (by rw[hc];rintro(⟨_,h⟩|⟨h,_⟩);cases h;omega))
   exact oz c (av E g) f e
 ·have E:(k=0)=False:=aI A
  have g:=nT (k=1);refine tq (bQ N E g) ?_;intro U Y O C;refine J.q ?_;cases hc:pC p 0
  ·have e:y=0:=a.trans (aC (by rw[hc];rintro(⟨h,_⟩|⟨_,h⟩);omega;cases h))
   exact oz c (av E g) f e
  ·have e:y=22:=a.trans (aD (.inr ⟨by omega,hc⟩))
   exact oz c (av E g) f e
theorem AR (b:bn)(o:gq)(c:Int)(H:aA)(ck:Ck b)(hp:yW o)(hz:kx b o=0):aN prog 116 [.agg (cu b),.agg (db o),i64 c] H λd H'=>d=.val (.bool (decide (tc b o=c)))/\H=H':=by
 refine aq (K:=λd=>d=.val (.bool (decide (tc b o=c)))) ?_;have n:=aF H;have i:=xH b o.pl H ck hp;obtain⟨P,E⟩:=EI hz;obtain⟨y,r⟩:=oX (decide (tc b o=c));rw[<-r];unfold tc at r;have f:o.k<=1->bN b.ty.length (mB b o.pl).1:=λh=>xV ck (E h);obtain⟨T,R⟩:=oX (mB b o.pl);rw[<-R] at r i f;have G:=lm bS b.ty;obtain⟨k,p,v⟩:=o;simp only at r P f;clear R E hz;simp only[ee] at i;rw[jB] at i ⊢;refine dO func116 ntmps116 results116 λw0 g0 Q j=>?_;refine tq @db.eq_1 ?_;intro U Y O C;intro Z M c4 N;refine Y _ ?_;refine uB 3 4 M N ?_;by_cases S:1<k
 ·have s:(1<k)=True:=aG S
  have fin:∀z:Int,(if k=2 then (2:Int) else if k=3 then 1 else if k=4 then 0 else (bY b.ty T.1).k)=z->y=decide (c=z):=λz h=>by
   rw[r,h];by_cases hz:z=c
   ·subst hz;rfl
   ·rw[af hz,af (λh=>hz h.symm)]
  by_cases B:k=2
  ·have A:(k=2)=True:=aG B
   have u:=nF (k=3);have w:=nF (k=4);have e:=fin 2 (aD B);by_cases a:c=2
   ·have d2:(c=2)=True:=aG a
    rw[ah a] at e;exact oz j (cw s A u w d2) n e
   ·have d2:(c=2)=False:=aI a
    rw[af a] at e;exact oz j (cw s A u w d2) n e
  have A:(k=2)=False:=aI B;by_cases L:k=3
  ·have u:(k=3)=True:=aG L
   have w:=nF (k=4);have e:=fin 1 (by rw[aC B,aD L]);by_cases a:c=1
   ·have d2:(c=1)=True:=aG a
    rw[ah a] at e;exact oz j (cw s A u w d2) n e
   ·have d2:(c=1)=False:=aI a
    rw[af a] at e;exact oz j (cw s A u w d2) n e
  have u:(k=3)=False:=aI L;have w:=nT (k=4);have e:=fin 0 (by rw[aC B,aC L,aD (by omega)]);by_cases a:c=0
  ·have d2:(c=0)=True:=aG a
   rw[ah a] at e;exact oz j (cw s A u w d2) n e
  ·have d2:(c=0)=False:=aI a
   rw[af a] at e;exact oz j (cw s A u w d2) n e
 have s:(1<k)=False:=aI S;rw[aC (by omega),aC (by omega),aC (by omega)] at r;have f:=f (by omega);have g:=gY f;have J:T.1.toNat<b.ty.length:=by unfold bN at f;omega
 have I:0<=T.1:=by unfold bN at f;omega
 obtain⟨t,V⟩:=oX (bY b.ty T.1);rw[<-V] at g r;simp only[bS] at g;refine tq s ?_;intro U Y O C;refine i.q ?_;have e:=r;by_cases a:t.k=c
 ·have d2:(t.k=c)=True:=aG a
  rw[ah a] at e;exact oz j (cw g J I G d2) n e
 ·have d2:(t.k=c)=False:=aI a
  rw[af a] at e;exact oz j (cw g J I G d2) n e
theorem SZ (b:bn)(o:gq)(t:Int)(H:aA)(ck:Ck b)(hp:yW o)(hz:kx b o=0)(ht:bN b.ty.length t):aN prog 191 [.agg (cu b),.agg (db o),i64 t] H λd H'=>d=.val (.bool (nW b o t))/\H=H':=by
 refine aq (K:=λd=>d=.val (.bool (nW b o t))) ?_;have P:=aF H;have c:=xH b o.pl H ck hp;have a:∀M,cP prog 116 [.agg (cu b),.agg (db o),i64 (bY b.ty t).k] M λd A=>A=aA.none/\d=.val (.bool (decide (tc b o=(bY b.ty t).k))):=λM=>an λw V=>AR b o _ w ck hp hz;obtain⟨E,j⟩:=EI hz;have i:o.k<=1->aN prog 261 [.seq 2 (b.ol.map pD),i64 b.rg.length,.seq 5 (b.ty.map bS),i64 (mB b o.pl).1,i64 t] H λd H'=>d=.val (.bool (y8 b.ol b.rg.length b.ty (mB b o.pl).1 t))/\H=H':=λh=>by
  have:=xV ck (j h);exact Wk b.ol b.rg.length b.ty ck.wt ck.ol (by have:=ck.MX;omega) ck.Qm ck.tl ck.ar.cH b.ty.length _ _ H this.2 ht.2
 have G:=lm sD b.rg;obtain⟨y,f⟩:=oX (nW b o t);rw[<-f];unfold nW at f;obtain⟨T,R⟩:=oX (mB b o.pl);obtain⟨Z,n⟩:=oX (tc b o);rw[<-R] at f c i;rw[<-n] at f a;have g:=gY ht;have L:t.toNat<b.ty.length:=by unfold bN at ht;omega
 have J:0<=t:=by unfold bN at ht;omega
 obtain⟨u,S⟩:=oX (bY b.ty t);rw[<-S] at g f a;have I:=lm bS b.ty;obtain⟨k,p,v⟩:=o;simp only at f E i;clear R j hz n S;simp only[bS] at g;simp only[db] at a;simp only[ee] at c;rw[jB] at c a ⊢;refine dO func191 ntmps191 results191 λw0 g0 Q N=>?_;refine tq @db.eq_1 ?_;intro U Y O C;intro c3 z c4 B;refine Y _ ?_;refine uB 3 4 z B ?_;by_cases s:1<k
 ·have r:(1<k)=True:=aG s
  have e:=f.trans (aD s);refine tq r ?_;intro U Y O C;refine dE (λ_ _ d A=>A=.none/\d=.val (.bool (decide (Z=u.k)))) λU Y=>?_;refine dst (cA g L J I) ?_;intro U Y O C;refine⟨a _,?_⟩;refine nx ?_;exact oz N r P e
 have r:(1<k)=False:=aI s;have e:=f.trans (aC s);refine tq r ?_;intro U Y O C;refine c.qs G ?_;intro U Y O C;refine(i (by omega)).q ?_;exact oz N r P e
def HC (r:tx):Bool:=decide (r.k=0)&&(decide (r.op=0)&&(decide (r.rg=0)&&(!r.mu&&(dU r.pl&&decide (r.ar.length=0)))))
theorem OV (r:tx)(H:aA)(hp:Bb r):aN prog 114 [.agg (uo r)] H λd H'=>d=.val (.bool (HC r))/\H=H':=by
 refine aq (K:=λd=>d=.val (.bool (HC r))) ?_;have c:=aF H;have g:=vb r.pl H hp.1;have f:=lm db r.ar;obtain⟨y,a⟩:=oX (HC r);rw[<-a];unfold HC at a;obtain⟨Z,z⟩:=oX (dU r.pl);rw[<-z] at g a;clear z;obtain⟨k,u,rg,A,G,s⟩:=r;simp only at a f;simp only[ee] at g;simp only[uo];refine dO func114 ntmps114 results114 λI E Q b=>?_;refine t0 ?_;intro U Y O C;intro B t;refine Y _ ?_;refine cm 1 t ?_;by_cases j:k=0
 case neg=>
  have h:(k=0)=False:=aI j;have e:y=false:=by rw[a,af j,dq]
  exact oz b h c e
 have h:(k=0)=True:=aG j;rw[ah j,cV] at a;by_cases n:u=0
 case neg=>
  have i:(u=0)=False:=aI n;have e:y=false:=by rw[a,af n,dq]
  exact oz b (av h i) c e
 have i:(u=0)=True:=aG n;rw[ah n,cV] at a;by_cases o:rg=0
 case neg=>
  have p:(rg=0)=False:=aI o;have e:y=false:=by rw[a,af o,dq]
  exact oz b (bQ h i p) c e
 have p:(rg=0)=True:=aG o;rw[ah o,cV] at a;cases A
 case true=>
  have e:y=false:=a;exact oz b (bQ h i p) c e
 rw[jW,cV] at a;refine tq (bQ h i p) ?_;intro U Y O C;refine g.q ?_;cases Z
 ·have e:y=false:=a
  exact oz b h c e
 rw[cV] at a;by_cases w:s.length=0
 ·have v:=nT ((s.length:Int)=0)
  have e:y=true:=by rw[a,ah w]
  exact oz b (av f v) c e
 ·have v:=nF ((s.length:Int)=0)
  have e:y=false:=by rw[a,af w]
  exact oz b (av f v) c e
def Pr (r:tx):Int:=if r.k<0\/4<r.k then 14 else if tv r=false then 2 else 0
theorem O5 (r:tx)(H:aA)(hp:Bb r):aN prog 189 [.agg (uo r)] H λd H'=>d=i64 (Pr r)/\H=H':=by
 refine aq (K:=λd=>d=i64 (Pr r)) ?_;have n:=aF H;have w:=vb r.pl H hp.1;have p:=lm db r.ar;obtain⟨y,a⟩:=oX (Pr r);rw[<-a];unfold Pr at a;rw[Jr] at a;unfold Lm at a;obtain⟨Z,N⟩:=oX (dU r.pl);rw[<-N] at w a;clear N;have E:=hp.2.1;unfold cH at E;obtain⟨k,B,rg,G,pl,z⟩:=r;simp only at a p E;simp only[ee] at w;simp only[uo];refine dO func189 ntmps189 results189 λw0 V Q j=>?_;refine t0 ?_;intro U Y O C;intro T L;refine Y _ ?_;refine cm 1 L ?_;by_cases I:k<0
 ·have h:(k<0)=True:=aG I
  have e:y=14:=a.trans (aD (.inl I));exact oz j h n e
 have h:(k<0)=False:=aI I;by_cases J:4<k
 ·have i:(4<k)=True:=aG J
  have e:y=14:=a.trans (aD (.inr J));exact oz j (av h i) n e
 have i:(4<k)=False:=aI J;rw[aC (by omega)] at a;by_cases P:k=0
 ·have b:=nT (k=0)
  have c:=nF (k=1);have f:=nF (k=2);have g:=nF (k=3);rw[aC (by omega:¬k=1)] at a;rw[aD (by omega:k=0)] at a;by_cases v:B=0
  case neg=>
   have t:(B=0)=False:=aI v;have e:y=2:=by rw[a,af v];simp
   exact oz j (ej h i b c f g t) n e
  have t:(B=0)=True:=aG v;rw[ah v] at a;by_cases o:rg=0
  case neg=>
   have s:(rg=0)=False:=aI o;have e:y=2:=by rw[a,af o];rfl
   exact oz j (bG h i b c f g t s) n e
  have s:(rg=0)=True:=aG o;rw[ah o] at a;cases G
  case true=>
   have e:y=2:=a;exact oz j (bG h i b c f g t s) n e
  refine tq (bG h i b c f g t s) ?_;intro U Y O C;refine w.q ?_;cases Z
  ·have e:y=2:=a
   exact oz j (eP h i b c f g) n e
  by_cases A:z.length=1
  ·have u:=nT ((z.length:Int)=1)
   have e:y=0:=by rw[a,ah A];rfl
   exact oz j (bG h i b c f g u p) n e
  ·have u:=nF ((z.length:Int)=1)
   have e:y=2:=by rw[a,af A];simp
   exact oz j (bG h i b c f g u p) n e
 by_cases M:k=1
 ·have b:=nF (k=0)
  have c:=nT (k=1);have f:=nF (k=2);have g:=nF (k=3);rw[aD M] at a;by_cases v:B=0
  case neg=>
   have t:(B=0)=False:=aI v;have e:y=2:=by rw[a,af v];rfl
   exact oz j (ej h i b c f g t) n e
  have t:(B=0)=True:=aG v;rw[ah v,cV] at a;by_cases A:z.length=0
  ·have u:=nF ((0:Int)<(z.length:Int))
   have e:y=0:=by rw[a,ah A];rfl
   exact oz j (bG h i b c f g t (av u p)) n e
  ·have u:=nT ((0:Int)<(z.length:Int))
   have e:y=2:=by rw[a,af A];rfl
   exact oz j (bG h i b c f g t (av u p)) n e
 by_cases R:k=2
 ·have b:=nF (k=0)
  have c:=nF (k=1);have f:=nT (k=2);have g:=nF (k=3);rw[aC (by omega:¬k=1)] at a;rw[aC (by omega:¬k=0)] at a;rw[aD (by omega:k=2)] at a;by_cases o:rg=0
  case neg=>
   have s:(rg=0)=False:=aI o;have e:y=2:=by rw[a,af o];rfl
   exact oz j (ej h i b c f g s) n e
  have s:(rg=0)=True:=aG o;rw[ah o] at a;cases G
  case true=>
   have e:y=2:=a;exact oz j (ej h i b c f g s) n e
  refine tq (ej h i b c f g s) ?_;intro U Y O C;refine w.q ?_;cases Z
  ·have e:y=2:=a
   exact oz j (eP h i b c f g) n e
  by_cases A:z.length=1
  ·have u:=nT ((z.length:Int)=1)
   have e:y=0:=by rw[a,ah A];rfl
   exact oz j (bG h i b c f g u p) n e
  ·have u:=nF ((z.length:Int)=1)
   have e:y=2:=by rw[a,af A];simp
   exact oz j (bG h i b c f g u p) n e
 by_cases S:k=3
 ·have b:=nF (k=0)
  have c:=nF (k=1);have f:=nF (k=2);have g:=nT (k=3);rw[aC (by omega:¬k=1)] at a;rw[aC (by omega:¬k=0)] at a;rw[aC (by omega:¬k=2)] at a;rw[aD (by omega:k=3)] at a;by_cases o:rg=0
  case neg=>
   have s:(rg=0)=False:=aI o;have e:y=2:=by rw[a,af o];rfl
   exact oz j (ej h i b c f g s) n e
  have s:(rg=0)=True:=aG o;rw[ah o] at a;cases G
  case true=>
   have e:y=2:=a;exact oz j (ej h i b c f g s) n e
  refine tq (ej h i b c f g s) ?_;intro U Y O C;refine w.q ?_;cases Z
  ·have e:y=2:=a
   exact oz j (eP h i b c f g) n e
  by_cases A:z.length=2
  ·have u:=nT ((z.length:Int)=2)
   have e:y=0:=by rw[a,ah A];rfl
   exact oz j (bG h i b c f g u p) n e
  ·have u:=nF ((z.length:Int)=2)
   have e:y=2:=by rw[a,af A];simp
   exact oz j (bG h i b c f g u p) n e
 have b:=nF (k=0);have c:=nF (k=1);have f:=nF (k=2);have g:=nF (k=3);rw[aC (by omega:¬k=1)] at a;rw[aC (by omega:¬k=0)] at a;rw[aC (by omega:¬k=2)] at a;rw[aC (by omega:¬k=3)] at a;by_cases v:B=0
 case neg=>
  have t:(B=0)=False:=aI v;have e:y=2:=by rw[a,af v];simp
  exact oz j (ej h i b c f g t) n e
 have t:(B=0)=True:=aG v;rw[ah v] at a;by_cases o:rg=0
 case neg=>
  have s:(rg=0)=False:=aI o;have e:y=2:=by rw[a,af o];rfl
  exact oz j (bG h i b c f g t s) n e
 have s:(rg=0)=True:=aG o;rw[ah o] at a;cases G
 case true=>
  have e:y=2:=a;exact oz j (bG h i b c f g t s) n e
 refine tq (bG h i b c f g t s) ?_;intro U Y O C;refine w.q ?_;cases Z
 ·have e:y=2:=a
  exact oz j (eP h i b c f g) n e
 have e:y=0:=a;exact oz j (eP h i b c f g) n e
end Go.Proofs.YtffgfafbffdgaaaGreatDoor
