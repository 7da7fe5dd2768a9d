/- Lemmas and contracts of functions, several texts in one. -/
import Derived.Test.YtfiipaodjpiooaaGreatDoorQ22
set_option maxRecDepth 100000
set_option maxHeartbeats 4000000
set_option linter.all false
namespace Go.Proofs.YtfiipaodjpiooaaGreatDoor
open Go.RowKit
def sm {α:Type} (f:α->Nat):List α->Nat
 |[]=>0
 |x::l=>f x+sm f l
theorem MH {α:Type} (f:α->Nat):∀(l m:List α),sm f (l++m)=sm f l+sm f m
 |[],m=>by simp [sm]
 |x::l,m=>by simp only[gP,sm];rw[MH f l m];omega
theorem FL {α:Type} {f:α->Nat} {l:List α} {i:Nat} (h:i<l.length):sm f (l.take (i+1))=sm f (l.take i)+f l[i]:=by
 rw[dH h,MH];simp [sm]
theorem aIc {α:Type} (f:α->Nat) (l:List α) (i:Nat):sm f (l.take i)<=sm f l:=by
 have:=MH f (l.take i) (l.drop i)
 rw[uQ] at this
 omega
theorem CN {α:Type} {f:α->Nat} {x:α}:∀{l:List α},x∈l->f x<=sm f l
 |y::l,h=>by
  simp only[sm]
  rcases dJ.1 h with rfl|h
  ·omega
  ·have:=@CN α f x l h;omega
open Tryz
def Ab (T n:Nat):Prop:=n<=T/\min T 9000<=n
theorem Ab.add {T n X v:Nat} (h:Ab T n) (h2:Ab X v):Ab (T+X) (n+v):=by unfold Ab at *;omega
theorem Ab.same (X:Nat):Ab X X:=by unfold Ab;omega
theorem Ab.cut (X:Nat):Ab X (min X 9000):=by unfold Ab;omega
theorem Ab.more {T n T':Nat} (h:Ab T n) (hn:9000<=n) (hl:T<=T'):Ab T' n:=by unfold Ab at *;omega
def opz (l:List qV):Nat:=l.length+sm (fun o=>o.pl.pr.length) l
def UL {α:Type} (f:α->Nat):List α->Nat->Nat
 |[],n=>n
 |x::l,n=>if 9000<n+f x then n+f x else UL f l (n+f x)
theorem aEV {α:Type} (f:α->Nat) (hf:∀x,f x<=9000):∀(l:List α) (n:Nat),n<=9000->UL f l n<=n+sm f l/\min (n+sm f l) 9000<=UL f l n/\UL f l n<=18000
 |[],n,h=>by simp only[UL,sm];omega
 |x::l,n,h=>by
  have hx:=hf x
  simp only[UL,sm]
  by_cases hb:9000<n+f x
  ·rw[aE hb];omega
  ·rw[aA hb]
   have:=aEV f hf l (n+f x) (by omega)
   omega
def opV (l:List qV):Nat:=UL (fun o:qV=>min o.pl.pr.length 9000) (l.take (min l.length 9000)) (min l.length 9000)
theorem aIB (l:List qV):Ab (opz l) (opV l)/\opV l<=18000:=by
 have h0:=aEV (fun o:qV=>min o.pl.pr.length 9000) (fun x=>Nat.min_le_right _ _) (l.take (min l.length 9000)) (min l.length 9000) (Nat.min_le_right _ _)
 have e1:∀m:List qV,Ab (sm (fun o:qV=>o.pl.pr.length) m) (sm (fun o:qV=>min o.pl.pr.length 9000) m):=fun m=>by
  induction m with
  |nil=>exact Ab.same 0
  |cons x m ih=>exact(Ab.cut _).add ih
 have h1:=(Ab.cut l.length).add (e1 (l.take (min l.length 9000)))
 have h3:sm (fun o:qV=>o.pl.pr.length) (l.take (min l.length 9000))<=sm (fun o:qV=>o.pl.pr.length) l:=aIc _ _ _
 refine⟨?_,h0.2.2⟩
 by_cases h:l.length<=9000
 ·have e:l.take (min l.length 9000)=l:=cW (by omega)
  unfold opV
  rw[e] at h1 h0 ⊢
  unfold Ab opz at *
  omega
 ·unfold opV
  unfold Ab opz at *
  omega
theorem aHk (l:List qV) (H:aC) (hl:l.length<=140737488351232) (hlx:∀o∈l,o.pl.pr.length<=140737488351232):bE prog 85 [.seq 4 (l.map jW)] H fun d H'=>d=i64 (opV l)/\H=H':=by
 have jY:=lm jW l
 obtain⟨a,ha⟩:∃a,a=min l.length 9000:=⟨_,rfl⟩
 have hm:min (l.length:Int) 9000=(a:Int):=by omega
 obtain⟨l',hl'⟩:∃l',l'=l.take a:=⟨_,rfl⟩
 have tN:l'.length=a:=by rw[hl',dU];omega
 have BT:(List.map jW l').length=a:=by rw[bC,tN]
 have ht:List.take a (List.map jW l)=List.map jW l':=by rw[hl',qB]
 have g1:((0:Int)<=(a:Int))=True:=aK (by omega)
 have g2:((a:Int)<=(l.length:Int))=True:=aK (by omega)
 have aYe:∀o∈l',o.pl.pr.length<=140737488351232:=fun o ho=>hlx o (by rw[hl'] at ho;exact zN ho)
 refine aQ _ _ func85 rfl rfl ntmps85 results85 (by simp) fun w0 g0 Q aD=>?_
 refine tq (kB jY hm ht g1 g2 BT) ?_;intro Nx aB Gx aF
 refine aZ a (fun i s=>s.df=[]/\s.fr 11=.seq 4 (l'.map jW)/\s.fr 12=i64 a/\s.fr 13=i64 i/\s.fr 3=i64 ((a+sm (fun o:qV=>min o.pl.pr.length 9000) (l'.take i):Nat):Int)/\a+sm (fun o:qV=>min o.pl.pr.length 9000) (l'.take i)<=9000/\opV l=UL (fun o:qV=>min o.pl.pr.length 9000) (l'.drop i) (a+sm (fun o:qV=>min o.pl.pr.length 9000) (l'.take i))/\s.H=H) ⟨rfl,rfl,rfl,rfl,rfl,by simp only[wZ,sm];omega,by simp only[wZ,sm,jB,u6];unfold opV;rw[<-ha,<-hl'],rfl⟩ ?_
 rintro i s hi ⟨aT,f11,f12,f13,f3,hb,hV,hH⟩
 have hx:=bI i
 have cJ:=bM i
 by_cases aV:i<a
 case neg=>
  have p1:((i:Int)<(a:Int))=False:=aI (by omega)
  rw[cW (by omega)] at f3 hb hV
  rw[eT (by omega)] at hV
  simp only[UL] at hV
  rw[<-hV] at f3
  refine tq (jE f3 f11 f12 f13 p1) ?_;intro Nx aB Gx aF
  refine rt aD aT ?_
  exact⟨_,aG _,hH.symm⟩
 have p1:((i:Int)<(a:Int))=True:=aK (by omega)
 have cC:i<l'.length:=by omega
 have cD:=fY (f:=jW) cC
 have pY:sm (fun o:qV=>min o.pl.pr.length 9000) (l'.take (i+1))=sm (fun o:qV=>min o.pl.pr.length 9000) (l'.take i)+min l'[i].pl.pr.length 9000:=FL cC
 rw[eH cC] at hV
 have hxp:=aYe l'[i] (bU cC)
 obtain⟨x,tV⟩:∃x,x=l'[i]:=⟨_,rfl⟩
 rw[<-tV] at cD pY hxp hV
 simp only[jW] at cD
 have hlp:=lm pD x.pl.pr
 have CB:min (x.pl.pr.length:Int) 9000=((min x.pl.pr.length 9000:Nat):Int):=by omega
 obtain⟨n,hn⟩:∃n,n=a+sm (fun o:qV=>min o.pl.pr.length 9000) (l'.take (i+1)):=⟨_,rfl⟩
 have w3:=wS i (by omega)
 have w4:IntKind.i64.wrap (((a+sm (fun o:qV=>min o.pl.pr.length 9000) (l'.take i):Nat):Int)+((min x.pl.pr.length 9000:Nat):Int))=(n:Int):=by rw[bF (by omega)];omega
 refine tq (nN f3 f11 f12 f13 p1 cD hx cJ aV BT) ?_;intro Nx aB Gx aF
 intro c5 lY
 refine aB _ ?_
 refine fZ 5 lY ?_
 simp only[UL] at hV
 have hnn:a+sm (fun o:qV=>min o.pl.pr.length 9000) (l'.take i)+min x.pl.pr.length 9000=n:=by omega
 rw[hnn] at hV
 by_cases N4:9000<n
 ·have p2:((9000:Int)<(n:Int))=True:=aK (by omega)
  refine tq (kB f3 f13 hlp CB w4 p2) ?_;intro Nx aB Gx aF
  refine rt aD aT ?_
  rw[aE N4] at hV
  exact⟨_,aG _,by rw[hV] <;> rfl,hH.symm⟩
 ·have p2:((9000:Int)<(n:Int))=False:=aI (by omega)
  refine tq (nF f3 f13 hlp CB w3 w4 p2) ?_;intro Nx aB Gx aF
  rw[aA N4] at hV
  exact⟨aV,aT,f11,f12,rfl,by rw[<-hn] <;> rfl,by omega,by rw[<-hn];exact hV,hH⟩
def szS (s:EZ):Nat:=s.pl.pr.length+s.rv.pl.pr.length+opz s.rv.ar
def WB (x:mP):Nat:=1+x.st.length+x.tm.tg.length+x.tm.pl.pr.length+x.tm.nm.size+sm szS x.st+opz x.tm.ar
def t1 (b:cT) (i:Nat):Nat:=b.nm.size+b.ol.length+sm (fun s:ByteArray=>1+s.size) (b.rg.take i)
def t2 (b:cT) (i:Nat):Nat:=t1 b b.rg.length+sm (fun t:dS=>1+t.ar.length) (b.ty.take i)
def t3 (b:cT) (i:Nat):Nat:=t2 b b.ty.length+sm (fun l:AO=>1+l.nm.size) (b.lc.take i)
def t4 (b:cT) (i:Nat):Nat:=t3 b b.lc.length+sm WB (b.bl.take i)
def tot (b:cT):Nat:=t4 b b.bl.length
def lg (b:cT):Int:=if 3000<tot b then 1 else 0
theorem aMr (b:cT) (i:Nat):t4 b i<=tot b:=by
 have:=aIc WB b.bl i
 unfold tot t4;rw[nC];omega
theorem aMD {b:cT} {i:Nat} (h:i<b.bl.length):t4 b (i+1)=t4 b i+WB b.bl[i]:=by
 have:=FL (f:=WB) h
 unfold t4;omega
theorem aKy (b:cT) (H:aC) (ok:AG b):bE prog 41 [.agg (iS b)] H fun d H'=>d=i64 (lg b)/\H=H':=by
 refine bO (K:=fun d=>d=i64 (lg b)) ?_
 obtain⟨hrg,hol,⟨pE,htx⟩,hlc,l4,hbx⟩:=ok
 unfold dO at hrg hol pE hlc l4
 have lrg:=lm sD b.rg
 have lol:=lm pD b.ol
 have llc:=lm mN b.lc
 have lty:=lm cP b.ty
 have lbl:=lm jP b.bl
 have mq:min (b.nm.size:Int) 9000=((min b.nm.size 9000:Nat):Int):=by omega
 have wq:IntKind.i64.wrap (((min b.nm.size 9000:Nat):Int)+(b.ol.length:Int))=((min b.nm.size 9000+b.ol.length:Nat):Int):=by rw[bF (by omega)];omega
 have a0:Ab (t1 b 0) (min b.nm.size 9000+b.ol.length):=by have:=(Ab.cut b.nm.size).add (Ab.same b.ol.length);exact this
 refine aQ _ _ func41 rfl rfl ntmps41 results41 (by simp) fun w0 g0 Q aD=>?_
 refine tq (dG @iS.eq_1 @cX.eq_1) ?_;intro Nx aB Gx aF
 intro c1 mA
 refine aB _ ?_
 refine fZ 1 mA ?_
 refine tq (nF lrg lol llc lty lbl mq wq) ?_;intro Nx aB Gx aF
 refine aZ b.rg.length (fun i s=>s.df=[]/\s.fr 1=.rp (iS b)/\s.fr 23=.seq 1 (b.rg.map sD)/\s.fr 24=i64 b.rg.length/\s.fr 25=i64 i/\(∃n,s.fr 3=i64 (n:Nat)/\Ab (t1 b i) n/\n<=(9000+140737488351232)+9001 * i)/\H.le s.H) ⟨rfl,rfl,rfl,rfl,rfl,⟨_,rfl,a0,by omega⟩,aG _⟩ ?_
 rintro i s hi ⟨aT,f1,f23,f24,f25,⟨n,f3,hA,hn⟩,aS⟩
 have hx:=bI i
 have cJ:=bM i
 have w3:=wS i (by omega)
 by_cases aV:i<b.rg.length
 case pos=>
  have p1:=lT i b.rg.length (by omega)
  have cD:=fY (f:=sD) aV
  have RI:t1 b (i+1)=t1 b i+(1+b.rg[i].size):=by have:=FL (f:=fun x=>1+x.size) aV;unfold t1;omega
  obtain⟨x,tV⟩:∃x,x=b.rg[i]:=⟨_,rfl⟩
  rw[<-tV] at cD RI
  simp only[sD,cX] at cD
  have m1:min (x.size:Int) 9000=((min (x.size) 9000:Nat):Int):=by omega
  have w4:IntKind.i64.wrap (1+((min (x.size) 9000:Nat):Int))=((1+min (x.size) 9000:Nat):Int):=by rw[bF (by omega)];omega
  have w5:IntKind.i64.wrap ((n:Int)+((1+min (x.size) 9000:Nat):Int))=((n+(1+min (x.size) 9000):Nat):Int):=by rw[bF (by omega)];omega
  refine tq (DH f3 f23 f24 f25 p1 cD hx cJ aV lrg m1 w3 w4 w5) ?_;intro Nx aB Gx aF
  exact⟨aV,aT,f1,f23,f24,rfl,⟨_,rfl,by rw[RI];exact hA.add ((Ab.same 1).add (Ab.cut _)),by omega⟩,aS⟩
 have p1:=lF i b.rg.length (by omega)
 have ei:i=b.rg.length:=by omega
 subst ei
 have f1':=f1
 simp only[iS] at f1
 have a1:Ab (t2 b 0) n:=hA
 clear hx cJ w3 hi aV
 refine tq (nF f1 f3 f23 f24 f25 p1 lty) ?_;intro Nx aB Gx aF
 refine aZ b.ty.length (fun i s=>s.df=[]/\s.fr 1=.rp (iS b)/\s.fr 37=.seq 5 (b.ty.map cP)/\s.fr 38=i64 b.ty.length/\s.fr 39=i64 i/\(∃n,s.fr 3=i64 (n:Nat)/\Ab (t2 b i) n/\n<=(9000+9002 * 140737488351232)+9001 * i)/\H.le s.H) ⟨aT,f1',rfl,rfl,rfl,⟨_,f3,a1,by omega⟩,aS⟩ ?_
 clear aT f1 f1' f23 f24 f25 f3 hA a1 hn aS p1
 rintro i s hi ⟨aT,f1,f37,f38,f39,⟨n,f3,hA,hn⟩,aS⟩
 have hx:=bI i
 have cJ:=bM i
 have w3:=wS i (by omega)
 by_cases aV:i<b.ty.length
 case pos=>
  have p1:=lT i b.ty.length (by omega)
  have cD:=fY (f:=cP) aV
  have RI:t2 b (i+1)=t2 b i+(1+b.ty[i].ar.length):=by have:=FL (f:=fun x=>1+x.ar.length) aV;unfold t2;omega
  obtain⟨x,tV⟩:∃x,x=b.ty[i]:=⟨_,rfl⟩
  rw[<-tV] at cD RI
  simp only[cP,cX] at cD
  have m1:min (x.ar.length:Int) 9000=((min (x.ar.length) 9000:Nat):Int):=by omega
  have w4:IntKind.i64.wrap (1+((min (x.ar.length) 9000:Nat):Int))=((1+min (x.ar.length) 9000:Nat):Int):=by rw[bF (by omega)];omega
  have w5:IntKind.i64.wrap ((n:Int)+((1+min (x.ar.length) 9000:Nat):Int))=((n+(1+min (x.ar.length) 9000):Nat):Int):=by rw[bF (by omega)];omega
  have hlx:=lm iD x.ar
  refine tq (nN f3 f37 f38 f39 p1 cD hx cJ aV lty) ?_;intro Nx aB Gx aF
  intro c5 lY
  refine aB _ ?_
  refine fZ 7 lY ?_
  refine tq (nF f3 f39 m1 w3 w4 w5 hlx) ?_;intro Nx aB Gx aF
  exact⟨aV,aT,f1,f37,f38,rfl,⟨_,rfl,by rw[RI];exact hA.add ((Ab.same 1).add (Ab.cut _)),by omega⟩,aS⟩
 have p1:=lF i b.ty.length (by omega)
 have ei:i=b.ty.length:=by omega
 subst ei
 have f1':=f1
 simp only[iS] at f1
 have a1:Ab (t3 b 0) n:=hA
 clear hx cJ w3 hi aV
 refine tq (nF f1 f3 f37 f38 f39 p1 llc) ?_;intro Nx aB Gx aF
 refine aZ b.lc.length (fun i s=>s.df=[]/\s.fr 1=.rp (iS b)/\s.fr 52=.seq 2 (b.lc.map mN)/\s.fr 53=i64 b.lc.length/\s.fr 54=i64 i/\(∃n,s.fr 3=i64 (n:Nat)/\Ab (t3 b i) n/\n<=(9000+18003 * 140737488351232)+9001 * i)/\H.le s.H) ⟨aT,f1',rfl,rfl,rfl,⟨_,f3,a1,by omega⟩,aS⟩ ?_
 clear aT f1 f1' f37 f38 f39 f3 hA a1 hn aS p1
 rintro i s hi ⟨aT,f1,f52,f53,f54,⟨n,f3,hA,hn⟩,aS⟩
 have hx:=bI i
 have cJ:=bM i
 have w3:=wS i (by omega)
 by_cases aV:i<b.lc.length
 case pos=>
  have p1:=lT i b.lc.length (by omega)
  have cD:=fY (f:=mN) aV
  have RI:t3 b (i+1)=t3 b i+(1+b.lc[i].nm.size):=by have:=FL (f:=fun x=>1+x.nm.size) aV;unfold t3;omega
  obtain⟨x,tV⟩:∃x,x=b.lc[i]:=⟨_,rfl⟩
  rw[<-tV] at cD RI
  simp only[mN,cX] at cD
  have m1:min (x.nm.size:Int) 9000=((min (x.nm.size) 9000:Nat):Int):=by omega
  have w4:IntKind.i64.wrap (1+((min (x.nm.size) 9000:Nat):Int))=((1+min (x.nm.size) 9000:Nat):Int):=by rw[bF (by omega)];omega
  have w5:IntKind.i64.wrap ((n:Int)+((1+min (x.nm.size) 9000:Nat):Int))=((n+(1+min (x.nm.size) 9000):Nat):Int):=by rw[bF (by omega)];omega
  refine tq (nN f3 f52 f53 f54 p1 cD hx cJ aV llc) ?_;intro Nx aB Gx aF
  intro c5 lY
  refine aB _ ?_
  refine fZ 9 lY ?_
  refine tq (kB f3 f54 m1 w3 w4 w5) ?_;intro Nx aB Gx aF
  exact⟨aV,aT,f1,f52,f53,rfl,⟨_,rfl,by rw[RI];exact hA.add ((Ab.same 1).add (Ab.cut _)),by omega⟩,aS⟩
 have p1:=lF i b.lc.length (by omega)
 have ei:i=b.lc.length:=by omega
 subst ei
 have f1':=f1
 simp only[iS] at f1
 have a1:Ab (t4 b 0) n:=hA
 clear hx cJ w3 hi aV
 by_cases N4:3000<n
 ·have p2:((3000:Int)<(n:Int))=True:=aK (by omega)
  have e:lg b=1:=by
   have:=aMr b 0
   unfold lg;rw[aE (by unfold Ab at a1;omega)]
  rw[e] at aD
  refine tq (nF f1 f3 f52 f53 f54 p1 p2) ?_;intro Nx aB Gx aF
  refine rt aD aT ?_
  exact⟨_,aG _,aS,_,aH aS,rfl⟩
 have p2:((3000:Int)<(n:Int))=False:=aI (by omega)
 refine tq (wG f1 f3 f52 f53 f54 p1 p2 lbl) ?_;intro Nx aB Gx aF
 refine aZ b.bl.length (fun i s=>s.df=[]/\s.fr 69=.seq 7 (b.bl.map jP)/\s.fr 70=i64 b.bl.length/\s.fr 71=i64 i/\(∃n,s.fr 3=i64 (n:Nat)/\Ab (t4 b i) n/\n<=23000)/\H.le s.H) ⟨aT,rfl,rfl,rfl,⟨_,f3,a1,by omega⟩,aS⟩ ?_
 clear aT f1 f1' f52 f53 f54 f3 hA a1 hn aS p1 p2 N4
 rintro i s hi ⟨aT,f69,f70,f71,⟨n,f3,hA,hn⟩,aS⟩
 have hx:=bI i
 have cJ:=bM i
 have w3:=wS i (by omega)
 have one:3000<tot b->lg b=1:=fun h=>aE h
 by_cases aV:i<b.bl.length
 case neg=>
  have p1:=lF i b.bl.length (by omega)
  have ei:i=b.bl.length:=by omega
  subst ei
  by_cases N4:3000<n
  ·have p2:((3000:Int)<(n:Int))=True:=aK (by omega)
   have e:lg b=1:=one (by unfold tot;unfold Ab at hA;omega)
   rw[e] at aD
   refine tq (kB f3 f69 f70 f71 p1 p2) ?_;intro Nx aB Gx aF
   refine rt aD aT ?_
   exact⟨_,aG _,aS,_,aH aS,rfl⟩
  ·have p2:((3000:Int)<(n:Int))=False:=aI (by omega)
   have e:lg b=0:=aA (by unfold tot;unfold Ab at hA;omega)
   rw[e] at aD
   refine tq (kB f3 f69 f70 f71 p1 p2) ?_;intro Nx aB Gx aF
   refine rt aD aT ?_
   exact⟨_,aG _,aS,_,aH aS,rfl⟩
 have p1:=lT i b.bl.length (by omega)
 have cD:=fY (f:=jP) aV
 have RI:=aMD aV
 have ND:=aMr b (i+1)
 obtain⟨⟨nI,hsx⟩,htg,⟨oF,aQM⟩,zB⟩:=hbx b.bl[i] (bU aV)
 unfold L9 at zB
 unfold dO at nI htg oF zB
 obtain⟨x,tV⟩:∃x,x=b.bl[i]:=⟨_,rfl⟩
 rw[<-tV] at cD RI nI hsx htg oF aQM zB
 simp only[jP,cX] at cD
 have ls:=lm vV x.st
 have lt:=lm iD x.tm.tg
 have lp:=lm pD x.tm.pl.pr
 have mx:min (x.tm.nm.size:Int) 9000=((min x.tm.nm.size 9000:Nat):Int):=by omega
 have v1:IntKind.i64.wrap (1+(x.st.length:Int))=((1+x.st.length:Nat):Int):=by rw[bF (by omega)];omega
 have v2:IntKind.i64.wrap (((1+x.st.length:Nat):Int)+(x.tm.tg.length:Int))=((1+x.st.length+x.tm.tg.length:Nat):Int):=by rw[bF (by omega)];omega
 have v3:IntKind.i64.wrap (((1+x.st.length+x.tm.tg.length:Nat):Int)+(x.tm.pl.pr.length:Int))=((1+x.st.length+x.tm.tg.length+x.tm.pl.pr.length:Nat):Int):=by rw[bF (by omega)];omega
 have v4:IntKind.i64.wrap (((1+x.st.length+x.tm.tg.length+x.tm.pl.pr.length:Nat):Int)+((min x.tm.nm.size 9000:Nat):Int))=((1+x.st.length+x.tm.tg.length+x.tm.pl.pr.length+min x.tm.nm.size 9000:Nat):Int):=by rw[bF (by omega)];omega
 obtain⟨m,hm⟩:∃m,m=n+(1+x.st.length+x.tm.tg.length+x.tm.pl.pr.length+min x.tm.nm.size 9000):=⟨_,rfl⟩
 have v5:IntKind.i64.wrap ((n:Int)+((1+x.st.length+x.tm.tg.length+x.tm.pl.pr.length+min x.tm.nm.size 9000:Nat):Int))=(m:Int):=by rw[bF (by omega)];omega
 obtain⟨T5,hT5⟩:∃T5,T5=t4 b i+(1+x.st.length+x.tm.tg.length+x.tm.pl.pr.length+x.tm.nm.size):=⟨_,rfl⟩
 have hAm:Ab T5 m:=by rw[hT5,hm];exact hA.add ((Ab.same _).add (Ab.cut _))
 have hT:T5+sm szS x.st+opz x.tm.ar<=tot b:=by unfold WB at RI;omega
 have hTe:T5+sm szS x.st+opz x.tm.ar=t4 b (i+1):=by unfold WB at RI;omega
 refine tq (nN f3 f69 f70 f71 p1 cD hx cJ aV lbl) ?_;intro Nx aB Gx aF
 intro c11 aBs
 refine aB _ ?_
 refine fZ 11 aBs ?_
 by_cases N4:3000<m
 ·have p2:((3000:Int)<(m:Int))=True:=aK (by omega)
  have e:lg b=1:=one (by unfold Ab at hAm;omega)
  rw[e] at aD
  refine tq (rQ f3 ls lt lp mx v1 v2 v3 v4 v5 p2) ?_;intro Nx aB Gx aF
  refine rt aD aT ?_
  exact⟨_,aG _,aS,_,aH aS,rfl⟩
 have p2:((3000:Int)<(m:Int))=False:=aI (by omega)
 refine tq (rQ f3 ls lt lp mx v1 v2 v3 v4 v5 p2) ?_;intro Nx aB Gx aF
 refine aZ x.st.length (fun j s=>s.df=[]/\s.fr 69=.seq 7 (b.bl.map jP)/\s.fr 70=i64 b.bl.length/\s.fr 71=i64 i/\s.fr 11=.rp (jP x)/\s.fr 101=.seq 11 (x.st.map vV)/\s.fr 102=i64 x.st.length/\s.fr 103=i64 j/\(∃n,s.fr 3=i64 (n:Nat)/\Ab (T5+sm szS (x.st.take j)) n/\n<=3000)/\H.le s.H) ⟨aT,f69,f70,f71,rfl,rfl,rfl,rfl,⟨_,rfl,hAm,by omega⟩,aS⟩ ?_
 clear aT f69 f70 f71 f3 hA hAm hn aS hm v5 N4 p2
 rintro j s hj ⟨aT,f69,f70,f71,f11,f101,f102,f103,⟨n,f3,hA,hn⟩,aS⟩
 have OE:=bI j
 have aXx:=bM j
 have v6:=wS j (by omega)
 by_cases fQ:j<x.st.length
 case neg=>
  have p2:=lF j x.st.length (by omega)
  rw[cW (by omega)] at hA
  obtain⟨hoA,kN⟩:=aIB x.tm.ar
  have u1:IntKind.i64.wrap ((n:Int)+(opV x.tm.ar:Int))=((n+opV x.tm.ar:Nat):Int):=by rw[bF (by omega)];omega
  simp only[jP] at f11
  refine tq (kB f3 f11 f101 f102 f103 p2) ?_;intro Nx aB Gx aF
  refine(aHk x.tm.ar _ oF aQM).mono ?_
  rintro d _ ⟨rfl,rfl⟩
  refine tq (eA f71 u1 w3) ?_;intro Nx aB Gx aF
  exact⟨aV,aT,f69,f70,rfl,⟨_,rfl,by rw[<-hTe];exact hA.add hoA,by omega⟩,aS⟩
 have p2:=lT j x.st.length (by omega)
 have qR:=fY (f:=vV) fQ
 have pY:sm szS (x.st.take (j+1))=sm szS (x.st.take j)+szS x.st[j]:=FL fQ
 have wI:=aIc szS x.st (j+1)
 obtain⟨hyp,hyq,hya,aRD⟩:=hsx x.st[j] (bU fQ)
 unfold L9 at hyp hyq
 unfold dO at hyp hyq hya
 obtain⟨y,hye⟩:∃y,y=x.st[j]:=⟨_,rfl⟩
 rw[<-hye] at qR pY hyp hyq hya aRD
 simp only[vV] at qR
 have lq:=lm pD y.pl.pr
 have lr:=lm pD y.rv.pl.pr
 obtain⟨hoA,kN⟩:=aIB y.rv.ar
 have u1:IntKind.i64.wrap ((y.pl.pr.length:Int)+(y.rv.pl.pr.length:Int))=((y.pl.pr.length+y.rv.pl.pr.length:Nat):Int):=by rw[bF (by omega)];omega
 have u2:IntKind.i64.wrap (((y.pl.pr.length+y.rv.pl.pr.length:Nat):Int)+(opV y.rv.ar:Int))=((y.pl.pr.length+y.rv.pl.pr.length+opV y.rv.ar:Nat):Int):=by rw[bF (by omega)];omega
 obtain⟨k,hk⟩:∃k,k=n+(y.pl.pr.length+y.rv.pl.pr.length+opV y.rv.ar):=⟨_,rfl⟩
 have u3:IntKind.i64.wrap ((n:Int)+((y.pl.pr.length+y.rv.pl.pr.length+opV y.rv.ar:Nat):Int))=(k:Int):=by rw[bF (by omega)];omega
 have hAk:Ab (T5+sm szS (x.st.take (j+1))) k:=by
  have h:=hA.add ((Ab.same (y.pl.pr.length+y.rv.pl.pr.length)).add hoA)
  rw[pY,hk]
  unfold szS
  rw[<-C0]
  exact h
 refine tq (nN f3 f101 f102 f103 p2 qR OE aXx fQ ls) ?_;intro Nx aB Gx aF
 intro c13 aYP
 refine aB _ ?_
 refine fZ 13 aYP ?_
 refine tq trivial ?_;intro Nx aB Gx aF
 refine dE (fun t _ d A=>A=.none/\d=(if t=some 121 then i64 (opV y.rv.ar) else d)) fun Nx aB=>?_;refine dst (kB f3 lq lr u1 u2 u3) ?_;intro Nx aB Gx aF
 refine⟨cF fun gI gX=>(aHk y.rv.ar _ hya aRD).mono fun d H' h=>h,?_⟩
 (first|refine aF _ ?_|refine aB _ ?_|skip)
 by_cases N4:3000<k
 ·have p3:((3000:Int)<(k:Int))=True:=aK (by omega)
  have e:lg b=1:=one (by unfold Ab at hAk;omega)
  rw[e] at aD
  refine tq (eA f103 p3 v6) ?_;intro Nx aB Gx aF
  refine rt aD aT ?_
  exact⟨_,aG _,aS,_,aH aS,rfl⟩
 have p3:((3000:Int)<(k:Int))=False:=aI (by omega)
 refine tq (eA f103 p3 v6) ?_;intro Nx aB Gx aF
 exact⟨fQ,aT,f69,f70,f71,f11,f101,f102,rfl,⟨_,rfl,hAk,by omega⟩,aS⟩
def wU (ts:List dS):Nat:=(ts.map fun t=>1+min t.ar.length 500).sum
theorem aBY (ts:List dS) (i:Nat):wU (ts.take i)<=wU ts:=by
 have h:wU (ts.take i++ts.drop i)=wU (ts.take i)+wU (ts.drop i):=by unfold wU;rw[cQ,List.sum_append]
 rw[uQ] at h;omega
theorem aMH (ts:List dS):ts.length<=wU ts:=by
 induction ts with
 |nil=>simp
 |cons t ts ih=>unfold wU at ih ⊢;rw[eU,List.sum_cons,eO];omega
theorem aIm {ts:List dS} {i:Nat} (h:i<ts.length):wU (ts.take (i+1))=wU (ts.take i)+(1+min ts[i].ar.length 500):=by
 unfold wU;rw[dH h,cQ,List.sum_append];simp
theorem aLJ (a b:Nat):min (a:Int) (b:Int)=((min a b:Nat):Int):=by omega
theorem aH9 (ts:List dS) (H:aC) (wI:ts.length<=140737488351232) (oF:∀u∈ts,u.ar.length<=140737488351232):bE prog 86 [.seq 5 (ts.map cP)] H fun d H'=>d=i64 (if 200<wU ts then 1 else 0)/\H=H':=by
 refine bO (K:=fun d=>d=i64 (if 200<wU ts then 1 else 0)) ?_
 have fN:=lm cP ts
 refine aQ _ _ func86 rfl rfl ntmps86 results86 (by simp) fun w0 g0 Q aD=>?_
 refine tq fN ?_;intro Nx aB Gx aF
 refine aZ ts.length (fun i s=>s.df=[]/\s.fr 6=.seq 5 (ts.map cP)/\s.fr 7=i64 ts.length/\s.fr 8=i64 i/\s.fr 3=i64 (wU (ts.take i):Nat)/\wU (ts.take i)<=200/\s.H=H) ⟨rfl,rfl,rfl,rfl,rfl,by simp [wU],rfl⟩ ?_
 rintro i s hi ⟨aT,f6,f7,f8,f3,hb,hH⟩
 have aY:H.le s.H:=by rw[hH];exact aG _
 have hx:=bI i
 have cJ:=bM i
 by_cases aV:i<ts.length
 case neg=>
  have q1:=lF i ts.length (by omega)
  rw[cW (by omega)] at hb
  refine tq (eA f7 f8 q1) ?_;intro Nx aB Gx aF
  refine rt aD aT ?_
  exact⟨_,aG _,aY,_,aH aY,by rw[aA (by omega)] <;> rfl⟩
 have q1:=lT i ts.length (by omega)
 have cD:(ts.map cP)[i]?=some (cP ts[i]):=by rw[dN,bX aV];rfl
 have nI:=aIm aV
 have RJ:=oF ts[i] (bU aV)
 have w3:=wS i (by omega)
 obtain⟨u,hu⟩:∃u,u=ts[i]:=⟨_,rfl⟩
 rw[<-hu] at cD nI RJ
 obtain⟨uk,um,ur,ue,ua⟩:=u
 simp only[cP] at cD
 simp only at nI RJ
 have tN:=lm iD ua
 have hmn:min (ua.length:Int) 500=((min ua.length 500:Nat):Int):=aLJ _ 500
 have w4:IntKind.i64.wrap (1+((min ua.length 500:Nat):Int))=((1+min ua.length 500:Nat):Int):=by rw[bF (by omega)];omega
 have w5:IntKind.i64.wrap ((wU (ts.take i):Int)+((1+min ua.length 500:Nat):Int))=(wU (ts.take (i+1)):Int):=by rw[bF (by omega)];omega
 refine tq (BR f6 f7 f8 q1 cD hx cJ aV fN) ?_;intro Nx aB Gx aF
 intro c5 lY
 refine aB _ ?_
 refine fZ 5 lY ?_
 by_cases N4:200<wU (ts.take (i+1))
 ·have q2:((200:Int)<(wU (ts.take (i+1)):Int))=True:=aK (by omega)
  have pC:=aBY ts (i+1)
  refine tq (kB f3 tN hmn w4 w5 q2) ?_;intro Nx aB Gx aF
  refine rt aD aT ?_
  exact⟨_,aG _,aY,_,aH aY,by rw[aE (by omega)] <;> rfl⟩
 ·have q2:((200:Int)<(wU (ts.take (i+1)):Int))=False:=aI (by omega)
  refine tq (wG f3 f8 tN hmn w4 w5 q2 w3) ?_;intro Nx aB Gx aF
  exact⟨aV,aT,f6,f7,rfl,rfl,by omega,hH⟩
theorem aMV (ts:List dS) (H:aC) (wI:ts.length<=1000000) (oF:∀u∈ts,u.ar.length<=140737488351232):bE prog 87 [.seq 5 (ts.map cP)] H fun d H'=>(∃b:Bool,d=.val (.bool b))/\H=H':=by
 refine bO (K:=fun d=>∃b:Bool,d=.val (.bool b)) ?_
 have fN:=lm cP ts
 refine aQ _ _ func87 rfl rfl ntmps87 results87 (by simp) fun w0 g0 Q aD=>?_
 refine tq fN ?_;intro Nx aB Gx aF
 refine aZ ts.length (fun i s=>s.df=[]/\s.fr 9=.seq 5 (ts.map cP)/\s.fr 10=i64 ts.length/\s.fr 11=i64 i/\H.le s.H/\∃p ob,p.length=i/\Gl H 3 1 (p.map iD) (s.fr 3) s.H ob) ⟨rfl,rfl,rfl,rfl,aG _,[],none,rfl,iW _ _ _ _⟩ ?_
 rintro i s hi ⟨aT,f9,f10,f11,aS,p,ob,zB,hg⟩
 have hx:=bI i
 have cJ:=bM i
 by_cases aV:i<ts.length
 case neg=>
  have q1:=lF i ts.length (by omega)
  refine tq (eA f10 f11 q1) ?_;intro Nx aB Gx aF
  refine rt aD aT ?_
  exact⟨_,aG _,aS,_,aH aS,_,rfl⟩
 have q1:=lT i ts.length (by omega)
 have cD:(ts.map cP)[i]?=some (cP ts[i]):=by rw[dN,bX aV];rfl
 have RJ:=oF ts[i] (bU aV)
 have w3:=wS i (by omega)
 obtain⟨u,hu⟩:∃u,u=ts[i]:=⟨_,rfl⟩
 rw[<-hu] at cD RJ
 obtain⟨uk,um,ur,ue,ua⟩:=u
 simp only[cP] at cD
 simp only at RJ
 have tN:=lm iD ua
 have VJ:(p=[]/\s.fr 3=.val (.slice none 0 0))\/∃c o,s.fr 3=.os c o 1 0 p.length/\s.H c=some (.row 3 o 1 (p.map iD)):=by
  rcases hg with⟨_,h1,h2⟩|⟨c,o,_,h1,h2,h3⟩
  ·exact .inl ⟨by simpa using h2,h1⟩
  ·exact .inr ⟨c,o,by rw[h1,bC],h3⟩
 obtain⟨d3,hd3⟩:∃d3,d3=s.fr 3:=⟨_,rfl⟩
 rw[<-hd3] at hg VJ
 refine tq (BR f9 f10 f11 q1 cD hx cJ aV fN) ?_;intro Nx aB Gx aF
 intro c5 lY
 refine aB _ ?_
 refine fZ 5 lY ?_
 (have fs:=trivial;(iterate 3 (first|refine aF _ ?_|refine aB _ ?_|refine dW ?_|refine dV ?_|refine fE ?_|refine cU ?_|refine cV ?_|refine cL ?_|refine bP ?_|((first|refine tS fun Nx aB=>?_|refine mS rfl rfl (by kernel_rfl) (by kernel_rfl) fun Gx aF=>?_|refine cH (by kernel_rfl) ?_|refine mJ fun A B wL wM=>?_);refine qK ?_;(first|refine aF _ ?_|refine aB _ ?_|refine wL ?_|refine wM ?_|skip))));(try clear fs))
 have aQt:∀(e:Int) (q:0<=e/\e<p.length),∃c o v,d3=.os c o 1 0 p.length/\s.H c=some (.row 3 o 1 (p.map iD))/\(p.map iD)[e.toNat]?=some [.val (.int .i64 v)]:=fun e q=>by
  rcases VJ with⟨h,_⟩|⟨c,o,h1,h2⟩
  ·rw[h] at q;simp at q;omega
  ·exact⟨c,o,_,h1,h2,uJ (by omega)⟩
 refine I0 (fun s1=>s1.df=[]/\s1.fr 9=.seq 5 (ts.map cP)/\s1.fr 10=i64 ts.length/\s1.fr 11=i64 i/\s1.fr 5=.rp [i64 uk,.val (.bool um),i64 ur,i64 ue,.seq 1 (ua.map iD)]/\s1.H=s.H/\s1.fr 3=d3/\∃v,s1.fr 6=i64 v) ?_ ?_
 ·by_cases h3:uk=3
  case neg=>
   have q3:(uk=3)=False:=aI h3
   refine tq q3 ?_;intro Nx aB Gx aF
   exact⟨aT,f9,f10,f11,rfl,rfl,hd3.symm,_,rfl⟩
  have q3:(uk=3)=True:=aK h3
  by_cases h4:0<=ue
  case neg=>
   have q4:(0<=ue)=False:=aI h4
   refine tq (dG q3 q4) ?_;intro Nx aB Gx aF
   exact⟨aT,f9,f10,f11,rfl,rfl,hd3.symm,_,rfl⟩
  have q4:(0<=ue)=True:=aK h4
  by_cases h5:ue<p.length
  ·obtain⟨c,o,v,h6,h7,h8⟩:=aQt ue ⟨h4,h5⟩
   have q5:(ue<(p.length:Int))=True:=aK h5
   have g3:s.fr 3=.os c o 1 0 p.length:=hd3.symm.trans h6
   refine tq (kB g3 q3 q4 q5 h7 h8) ?_;intro Nx aB Gx aF
   exact⟨aT,f9,f10,f11,rfl,rfl,hd3.symm,_,rfl⟩
  ·have q5:(ue<(p.length:Int))=False:=aI h5
   rcases VJ with⟨h6,h7⟩|⟨c,o,h6,h7⟩
   ·have g3:s.fr 3=.val (.slice none 0 0):=hd3.symm.trans h7
    rw[h6] at q5
    simp only[wF,Int.natCast_zero] at q5
    refine tq (gQ g3 q3 q4 q5) ?_;intro Nx aB Gx aF
    exact⟨aT,f9,f10,f11,rfl,rfl,hd3.symm,_,rfl⟩
   ·have g3:s.fr 3=.os c o 1 0 p.length:=hd3.symm.trans h6
    refine tq (gQ g3 q3 q4 q5) ?_;intro Nx aB Gx aF
    exact⟨aT,f9,f10,f11,rfl,rfl,hd3.symm,_,rfl⟩
 rintro s1 ⟨pP,g9,Z0,g11,g5,uK,g3,v,g6⟩
 refine tq (dG g5 tN) ?_;intro Nx aB Gx aF
 refine aZ ua.length (fun j s'=>s'.df=[]/\s'.fr 9=.seq 5 (ts.map cP)/\s'.fr 10=i64 ts.length/\s'.fr 11=i64 i/\s'.fr 38=.seq 1 (ua.map iD)/\s'.fr 39=i64 ua.length/\s'.fr 40=i64 j/\s'.H=s.H/\s'.fr 3=d3/\∃v,s'.fr 6=i64 v) ⟨pP,g9,Z0,g11,rfl,rfl,rfl,uK,g3,v,g6⟩ ?_
 rintro j s2 hj ⟨qX,k9,k10,k11,k38,k39,k40,mV,k3,v2,k6⟩
 have hjx:=bI j
 have xB:=bM j
 have pC:H.le s2.H:=by rw[mV];exact aS
 by_cases fQ:j<ua.length
 case neg=>
  have q2:=lF j ua.length (by omega)
  have GL:Gl H 3 1 (p.map iD) (s2.fr 3) s2.H ob:=by rw[k3,mV];exact hg
  refine tq (gQ k39 k40 k6 q2) ?_;intro Nx aB Gx aF
  refine dD (e:=3) kZ rfl kZ rfl PF rfl (by decide) pC GL (new:=[iD v2]) (by exact⟨rfl,rfl⟩) (by rw[bC];show(_+1) * 8<=_;omega) fun d H6 oG j6 eM _=>?_
  rw[show[iD v2]=[v2].map iD from rfl,<-cQ] at j6
  refine tq (dG k11 w3) ?_;intro Nx aB Gx aF
  exact⟨aV,qX,k9,k10,rfl,eM,_,oG,by rw[bN];simp [zB],j6⟩
 have q2:=lT j ua.length (by omega)
 have qR:=cO fQ
 have w4:=wS j (by omega)
 obtain⟨f,hfe⟩:∃f,f=ua[j]:=⟨_,rfl⟩
 rw[<-hfe] at qR
 (have fs:=And.intro k38 (And.intro k39 (And.intro k40 (And.intro q2 (And.intro qR (And.intro hjx (And.intro xB (And.intro fQ tN)))))));(iterate 10 (first|refine aF _ ?_|refine aB _ ?_|refine dW ?_|refine dV ?_|refine fE ?_|refine cU ?_|refine cV ?_|refine cL ?_|refine bP ?_|((first|refine tS fun Nx aB=>?_|refine mS rfl rfl (by kernel_rfl) (by kernel_rfl) fun Gx aF=>?_|refine cH (by kernel_rfl) ?_|refine mJ fun A B wL wM=>?_);refine qK ?_;(first|refine aF _ ?_|refine aB _ ?_|refine wL ?_|refine wM ?_|skip))));(try clear fs))
 refine I0 (fun s3=>s3.df=[]/\s3.fr 9=.seq 5 (ts.map cP)/\s3.fr 10=i64 ts.length/\s3.fr 11=i64 i/\s3.fr 38=.seq 1 (ua.map iD)/\s3.fr 39=i64 ua.length/\s3.fr 40=i64 j/\s3.H=s.H/\s3.fr 3=d3/\∃v,s3.fr 6=i64 v) ?_ ?_
 ·by_cases h4:0<=f
  case neg=>
   have q4:(0<=f)=False:=aI h4
   refine tq q4 ?_;intro Nx aB Gx aF
   exact⟨qX,k9,k10,k11,k38,k39,k40,mV,k3,v2,k6⟩
  have q4:(0<=f)=True:=aK h4
  by_cases h5:f<p.length
  ·obtain⟨c,o,v,h6,h7,h8⟩:=aQt f ⟨h4,h5⟩
   have q5:(f<(p.length:Int))=True:=aK h5
   have m3:s2.fr 3=.os c o 1 0 p.length:=k3.trans h6
   rw[<-mV] at h7
   refine tq (kB m3 k6 q4 q5 h7 h8) ?_;intro Nx aB Gx aF
   exact⟨qX,k9,k10,k11,k38,k39,k40,mV,k3,_,rfl⟩
  ·have q5:(f<(p.length:Int))=False:=aI h5
   rcases VJ with⟨h6,h7⟩|⟨c,o,h6,h7⟩
   ·have m3:s2.fr 3=.val (.slice none 0 0):=k3.trans h7
    rw[h6] at q5
    simp only[wF,Int.natCast_zero] at q5
    refine tq (eA m3 q4 q5) ?_;intro Nx aB Gx aF
    exact⟨qX,k9,k10,k11,k38,k39,k40,mV,k3,v2,k6⟩
   ·have m3:s2.fr 3=.os c o 1 0 p.length:=k3.trans h6
    refine tq (eA m3 q4 q5) ?_;intro Nx aB Gx aF
    exact⟨qX,k9,k10,k11,k38,k39,k40,mV,k3,v2,k6⟩
 rintro s3 ⟨TZ,m9,m10,m11,m38,m39,m40,y8,m3,v3,m6⟩
 have qY:H.le s3.H:=by rw[y8];exact aS
 by_cases N4:2000<v3
 ·have q5:(2000<v3)=True:=aK N4
  refine tq (dG m6 q5) ?_;intro Nx aB Gx aF
  refine rt aD TZ ?_
  exact⟨_,aG _,qY,_,aH qY,_,rfl⟩
 ·have q5:(2000<v3)=False:=aI N4
  refine tq (gQ m6 m40 q5 w4) ?_;intro Nx aB Gx aF
  exact⟨fQ,TZ,m9,m10,m11,m38,m39,rfl,y8,m3,v3,m6⟩
theorem aLy (ts:List dS) (H:aC) (wI:ts.length<=140737488351232) (oF:∀u∈ts,u.ar.length<=140737488351232):bE prog 42 [.seq 5 (ts.map cP)] H fun d H'=>(d=i64 1\/(d=i64 0/\wU ts<=200))/\H=H':=by
 refine bO (K:=fun d=>d=i64 1\/(d=i64 0/\wU ts<=200)) ?_
 have aS:=aG H
 refine aQ _ _ func42 rfl rfl ntmps42 results42 (by simp) fun w0 g0 Q aD=>?_
 refine tq trivial ?_;intro Nx aB Gx aF
 refine(aH9 ts _ wI oF).mono ?_
 rintro d _ ⟨rfl,rfl⟩
 by_cases hb:200<wU ts
 ·rw[aE hb]
  refine tq trivial ?_;intro Nx aB Gx aF
  refine rt aD trivial ?_
  exact⟨_,aG _,aS,_,aH aS,.inl rfl⟩
 rw[aA hb]
 refine tq trivial ?_;intro Nx aB Gx aF
 have:=aMH ts
 refine(aMV ts _ (by omega) oF).mono ?_
 rintro d _ ⟨⟨b,rfl⟩,rfl⟩
 cases b with
 |true=>
  refine tq trivial ?_;intro Nx aB Gx aF
  refine rt aD trivial ?_
  exact⟨_,aG _,aS,_,aH aS,.inl rfl⟩
 |false=>
  refine tq trivial ?_;intro Nx aB Gx aF
  refine rt aD trivial ?_
  exact⟨_,aG _,aS,_,aH aS,.inr ⟨rfl,by omega⟩⟩
end Go.Proofs.YtfiipaodjpiooaaGreatDoor

