/- Lemmas and contracts of functions, several texts in one. -/
import Derived.Test.YtfiipaodjpiooaaGreatDoorQ36
import Derived.Test.YtfiipaodjpiooaaGreatDoorQ41
import Derived.Test.YtfiipaodjpiooaaGreatDoorQ37
set_option maxRecDepth 100000
set_option maxHeartbeats 4000000
set_option linter.all false
namespace Go.Proofs.YtfiipaodjpiooaaGreatDoor
open Go.RowKit
open Tryz
theorem aPG {H:aC} {b o:Nat} {T:TypeId} {l:List Int} (hb:H b=some (.row T o 1 (l.map iD))) (hl:l.length<=1000000000):
  bE prog 40 [.os b o 1 0 l.length] H fun d H'=>d=.pG []/\∃m:List Int,m.length=l.length/\H'=H.bH b (.row T o 1 (m.map iD)):=by
 refine aQ _ _ func40 rfl rfl ntmps40 results40 (by simp) fun w0 g0 Q aD=>?_
 have w0:IntKind.i64.wrap ((l.length:Int) - 1)=(l.length:Int) - 1:=bF (by omega)
 refine tq w0 ?_;intro Nx aB Gx aF
 refine pZ (fun k s=>∃(i:Nat) (j:Int) (m:List Int),k=(j - i+1).toNat/\j<l.length/\ -1<=j/\(i:Int)<=l.length/\s.df=[]/\s.fr 0=.os b o 1 0 l.length/\s.fr 2=i64 i/\s.fr 3=i64 j/\m.length=l.length/\s.H=H.bH b (.row T o 1 (m.map iD))) l.length ⟨0,(l.length:Int) - 1,l,by omega,by omega,by omega,by omega,rfl,rfl,rfl,rfl,rfl,funext fun c=>by
  by_cases e:c=b
  ·rw[e,aO];exact hb
  ·exact(aN e).symm⟩ ?_
 rintro k s ⟨i,j,m,rfl,hj1,DR,EM,aT,f0,f2,f3,hm,hH⟩
 by_cases hij:(i:Int)<j
 case neg=>
  have q1:((i:Int)<j)=False:=aI hij
  refine tq (eA f2 f3 q1) ?_;intro Nx aB Gx aF
  refine rt aD aT ?_
  exact⟨_,aG _,m,hm,hH⟩
 obtain⟨n,hn⟩:∃n:Nat,j=n:=⟨j.toNat,by omega⟩
 subst hn
 have q1:((i:Int)<(n:Int))=True:=aK hij
 have hxi:=bI i
 have h0i:=bM i
 have hxn:=bI n
 have h0n:=bM n
 have B9:(i:Int)<(l.length:Int):=by omega
 have dX:=lm iD m
 have cD:(m.map iD)[i]?=some [i64 m[i]]:=by rw[dN,bX (by omega)];rfl
 have hgn:(m.map iD)[n]?=some [i64 m[n]]:=by rw[dN,bX (by omega)];rfl
 have M9:s.H b=some (.row T o 1 (m.map iD)):=by rw[hH,aO]
 have w3:=wS i (by omega)
 have w4:IntKind.i64.wrap ((n:Int) - 1)=(n:Int) - 1:=bF (by omega)
 have hgs:((m.map iD).set i [.val (.int .i64 m[n])])[n]?=some [i64 m[n]]:=by rw[List.getElem?_set_ne (by omega)];exact hgn
 refine tq (eA f2 f3 q1) ?_;intro Nx aB Gx aF
 refine wE (fun _=>false) (fun _=>false) (fun _ _ _ _=>False) (fun _ _ _ _ _=>False) fun Nx aB=>?_;have fs:=And.intro f0 (And.intro f2 (And.intro f3 (And.intro M9 (And.intro cD (And.intro hgn (And.intro hgs (And.intro hxi (And.intro h0i (And.intro hxn (And.intro h0n (And.intro B9 (And.intro hj1 dX))))))))))));refine TU ?_;(first|refine aF _ ?_|refine aB _ ?_|skip);(try clear fs)
 show W _ _ _ _
 refine tq (gQ f2 f3 w3 w4) ?_;intro Nx aB Gx aF
 refine⟨((n:Int) - 1 - ((i+1:Nat):Int)+1).toNat,by show _<_;omega,i+1,(n:Int) - 1,(m.set i m[n]).set n m[i],rfl,by omega,by omega,by omega,aT,f0,rfl,rfl,by rw[wD,wD];exact hm,?_⟩
 show s.H.bH _ _=_
 rw[hH,F9,K1,K1] <;> rfl
theorem aH8 {B:List (Int×Int)} {k:Nat} {p:Int} (h:p∈tW (B.take k)):∃(j:Nat) (hj:j<B.length),j<k/\B[j].1=p:=by
 obtain⟨y,hy⟩:=rL.1 h
 obtain⟨j,hj,e⟩:=sA hy
 rw[dU] at hj
 rw[PZ] at e
 exact⟨j,by omega,by omega,by rw[e]⟩
theorem aKx {B:List (Int×Int)} {k:Nat} {p:Int} (h:p∈tW (B.take k)):p∈tW B:=by
 obtain⟨y,hy⟩:=rL.1 h
 exact rL.2 ⟨y,zN hy⟩
theorem aPa (LN:List uV) (E K V L:List (Int×Int)) (n i:Nat) (hi:i<LN.length) (q:Int) (H:aC) (hn:n<=300) (hLN:LN.length<=10000) (hK:dO K.length) (hV:dO V.length) (hL:dO L.length) (hE:E.length<=1000000) (k64:∀y∈K,fU y.1/\fU y.2) (v64:∀y∈V,fU y.1/\fU y.2) (l64:∀y∈L,fU y.1/\fU y.2) (eR:∀y∈E,cE n y.1/\cE n y.2) (rR:fU LN[i].rg/\cE n LN[i].pt) (aFG:HC q):
  bE prog 21 [.agg (fcD LN E K V L),i64 i,i64 q] H fun d H'=>(∃w:List Int,d=.seq 1 (w.map iD)/\(w≠[]↔Z9 (V8 E K L i LN[i].rg) LN[i].pt q))/\H=H':=by
 have e64:∀y∈E,fU y.1/\fU y.2:=fun y hy=>by have:=eR y hy;unfold cE at this;unfold fU;omega
 have LW:=fun H1=>aHr LN E K V L H1 hK hV hL hE k64 v64 l64 e64
 have hsc:=fun b1 b2 b3 b4 m1 H1 B9 GP=>aEF LN E K V L b1 b2 b3 b4 m1 i n hi H1 B9 hn hE k64 l64 eR (by unfold fU;omega) rR.1 rR.2 GP
 have dX:=lm vS LN
 have hx:=bI i
 have cJ:=bM i
 have cC:(i:Int)<(LN.length:Int):=by omega
 have GN:(List.map vS LN)[i]?=some (vS LN[i]):=fY hi
 obtain⟨r,hr⟩:∃r,r=LN[i]:=⟨_,rfl⟩
 rw[<-hr] at GN hsc rR ⊢
 simp only[vS] at GN
 have aA2:∀B,Bf (V8 E K L i r.rg) r.pt B->∀q∈tW B,cE n q:=fun B h q hq=>by obtain⟨p,hp⟩:=h.in hq;exact(eR _ hp).2
 have hBl:∀B,Bf (V8 E K L i r.rg) r.pt B->B.length<=n:=fun B h=>h.len fun e he=>(eR e he).2
 obtain⟨f,hf⟩:∃f,f=V8 E K L i r.rg:=⟨_,rfl⟩
 rw[<-hf] at aA2 hBl hsc ⊢
 refine bO (K:=fun d=>∃w:List Int,d=.seq 1 (w.map iD)/\(w≠[]↔Z9 f r.pt q)) ?_
 have q1:((i:Int)<0)=False:=aI (by omega)
 have q2:((LN.length:Int)<=(i:Int))=False:=aI (by omega)
 unfold fcD at LW ⊢
 refine aQ _ _ func21 rfl rfl ntmps21 results21 (by simp) fun w0 g0 Q aD=>?_
 refine tq trivial ?_;intro Nx aB Gx aF
 intro c3 j5
 refine aB _ ?_
 refine fZ 3 j5 ?_
 refine tq (eA q1 q2 dX) ?_;intro Nx aB Gx aF
 refine(LW _).mono ?_
 rintro d H1 ⟨b1,b2,b3,b4,m1,rfl,kU,B9,GP⟩
 have hsc:=hsc b1 b2 b3 b4 m1 H1 B9 GP
 obtain⟨X,hX⟩:∃X,X=ixD LN E K V L b1 b2 b3 b4:=⟨_,rfl⟩
 rw[<-hX] at hsc ⊢
 refine tq trivial ?_;intro Nx aB Gx aF
 refine hsc.mono ?_
 rintro d H2 ⟨bm,B,rfl,tR,hBf,pC,sQ⟩
 have iC:H.le H2:=mH kU pC
 have N5:=lC kU tR
 have hBi:=aA2 B hBf.b
 have hBn:=hBl B hBf.b
 have RF:∀p,HC p->kOK prog 3 (SMI B) (.int .i64 p):=fun p hp=>aFr (fun q hq=>by have:=hBi q hq;unfold cE at this;unfold HC;omega) hp
 have hkq:=RF q aFG
 by_cases hqk:q∈tW B
 case neg=>
  have hgq:=aCr hqk
  refine tq (eA sQ hgq hkq) ?_;intro Nx aB Gx aF
  refine rt aD trivial ?_
  exact⟨_,aG _,iC,.seq 1 [],qA,[],rfl,⟨fun h=>absurd rfl h,fun h=>absurd (hBf.fin.2 h) hqk⟩⟩
 obtain⟨p0,hp0⟩:=rL.1 hqk
 have hgq:=aB7 hBf.b.nd hp0
 have NC:p0=r.pt\/p0∈tW (B.take B.length):=by
  obtain⟨j,hj,e⟩:=sA hp0
  have:=(hBf.b.pr j hj).2
  rw[e] at this
  exact this.imp id fun h=>by rw[nC];exact aKx h
 refine to (eA sQ hgq hkq) ?_;intro Nx aB Gx aF
 intro b hb
 refine aB _ ?_
 show W _ _ _ _
 refine bP ?_
 refine cL ?_
 refine pZ (fun k s=>∃(p:Int) (w:List Int) (ob:Option Nat),(p=r.pt\/p∈tW (B.take k))/\w.length+k<=B.length+2/\w≠[]/\s.df=[]/\s.fr 1=i64 i/\s.fr 3=.rp [.seq 5 (LN.map vS),.seq 2 (E.map pD),.seq 2 (K.map pD),.seq 2 (V.map pD),.seq 2 (L.map pD)]/\s.fr 7=.val (.map (some bm))/\s.fr 8=i64 p/\Gl H2 3 1 (w.map iD) (s.fr 10) s.H ob/\H2.le s.H) B.length ?_ ?_
 ·exact⟨p0,[q,p0],some b,NC,by show 2+_<=_;omega,by simp,rfl,rfl,rfl,rfl,rfl,.inr ⟨b,0,rfl,rfl,hb,aO _ _ _⟩,o8 (aG _) hb⟩
 rintro k s ⟨p,w,ob,hp,hwk,hw0,aT,f1,f3,f7,f8,hg,aS⟩
 by_cases hpt:p=r.pt
 case pos=>
  have q4:(p=r.pt)=True:=aK hpt
  rcases hg with⟨_,_,h⟩|⟨c,o,rfl,h10,AL,hc⟩
  ·exact absurd (List.map_eq_nil_iff.1 h) hw0
  rw[bC] at h10
  refine tq (rQ f1 f3 f8 dX hx cJ hi cC GN q4 h10) ?_;intro Nx aB Gx aF
  refine(aPG hc (by omega)).mono ?_
  rintro d H9 ⟨rfl,m,hm,rfl⟩
  refine tq h10 ?_;intro Nx aB Gx aF
  refine rt aD aT ?_
  have aQT:H c=none:=tJ iC AL
  have e:((m.map iD).drop 0).take w.length=m.map iD:=by rw[jB,cW (by rw[bC,hm];exact dI _)]
  have YB:∀z,H.le (s.H.bH c z):=fun z=>bK (mH iC aS) aQT
  exact⟨_,aG _,YB _,.seq 1 (m.map iD),by
   have h:=yY (o:=o) (k:=0) (n:=w.length) (YB (.row 3 o 1 (m.map iD))) (aO _ _ _) aQT (by rw[bC,hm];omega)
   rw[e] at h
   exact h,m,rfl,⟨fun _=>hBf.fin.1 hqk,fun _ e=>hw0 (List.length_eq_zero_iff.1 (by rw[<-hm,e];rfl))⟩⟩
 have q4:(p=r.pt)=False:=aI hpt
 obtain⟨j,hjB,hjk,e⟩:=aH8 (hp.resolve_left hpt)
 have aQs:=(hBf.b.pr j hjB).2
 obtain⟨p2,hp2⟩:∃p2,p2=B[j].2:=⟨_,rfl⟩
 rw[<-hp2] at aQs
 have iI:(p,p2)∈B:=by rw[<-e,hp2];exact bU hjB
 have aY0:=aB7 hBf.b.nd iI
 have aY7:=RF p (by have:=hBi p (rL.2 ⟨_,iI⟩);unfold cE at this;unfold HC;omega)
 have aYf:=aS _ _ sQ
 refine tq (DH f1 f3 f7 f8 dX hx cJ hi cC GN q4 aYf aY0 aY7) ?_;intro Nx aB Gx aF
 refine dD (e:=3) kZ rfl kZ rfl PF rfl (by decide) aS hg (new:=[iD p2]) (by exact⟨rfl,rfl⟩) (by rw[bC];show(_+1) * 8<=_;omega) fun d3 H3 YX TF qY qS=>?_
 refine tq trivial ?_;intro Nx aB Gx aF
 exact⟨j,hjk,p2,w++[p2],YX,aQs,by rw[bN];show _+1+_<=_;omega,by simp,aT,f1,f3,f7,rfl,by rw[cQ];exact TF,qY⟩
theorem aP9 (b:cT) {S:List (Int×Int)} (hS:∀y,y∈S↔LvR b y.1 y.2) (y:Int×Int) (hy:y∈tO (mO b).length (bZ (dK b)) (qN b)):
  ScL (mO b) (tQ (dK b)) (tO (mO b).length (bZ (dK b)) (rW b)) (iH S) y↔y∈rZ b:=by
 obtain⟨h1,h2,l',h4,h5⟩:=zE.1 hy
 rw[aBb b hS y h1.2,oK]
 unfold VP
 constructor
 ·rintro⟨l,h6,h7,h8⟩
  rw[h7] at h4
  injection h4 with h4
  subst h4
  exact⟨l,h6,h7,h8,h5⟩
 ·rintro⟨l,h6,h7,h8,_⟩
  exact⟨l,h6,h7,h8⟩
theorem aKG (b:cT):((tO (mO b).length (bZ (dK b)) (qN b)).filter fun y=>decide (y∈rZ b))=rZ b:=by
 refine RS ((R5 _ _ _).filter _) (sM b) fun y=>?_
 rw[jX,fV]
 refine⟨fun h=>h.2,fun h=>⟨?_,h⟩⟩
 have hv:=oK.1 h
 have hl:=hv.lt
 obtain⟨l,h1,h2,_,h4⟩:=hv
 exact zE.2 ⟨hl.1,hl.2,l,h2,h4⟩
theorem aOt (b:cT) (ok:AG b):bE prog 7 [.agg (iS b)] .none fun d _=>d=.val (.bool true):=by
 have TI:=fun H1=>ES b H1 ok
 have hex:=fun ts:Ts b=>fun H1=>LJ b H1 (OP ts.tb).ex
 have gV:=fun ts:Ts b=>fun H1=>I9 ts.tb H1
 unfold iS at TI hex gV ⊢
 refine aQ _ _ func7 rfl rfl ntmps7 results7 (by simp) fun w0 g0 Q aD=>?_
 refine tq trivial ?_;intro Nx aB Gx aF
 intro c1 mA
 refine aB _ ?_
 refine fZ 1 mA ?_
 refine tq trivial ?_;intro Nx aB Gx aF
 refine(TI _).mono ?_
 rintro d _ ⟨hd,rfl⟩
 rcases hd with rfl|⟨rfl,ts⟩
 ·refine tq trivial ?_;intro Nx aB Gx aF
  refine(kQ _).mono ?_
  rintro d _ ⟨rfl,rfl⟩
  refine tq trivial ?_;intro Nx aB Gx aF
  refine rt aD trivial ?_
  exact⟨_,aG _⟩
 have hex:=hex ts
 have gV:=gV ts
 have ck:=OP ts.tb
 have X4:=ck.ex.rg.lv.cn
 have jY:=ck.ex.ll
 have hrg:=ck.ex.rg.rgl
 have zB:=fun P=>zF P (mO b).length (bZ (dK b))
 have xY:(mO b).length * bZ (dK b)<=10000 * 130:=pW jY X4
 have aBq:∀P,∀y∈tO (mO b).length (bZ (dK b)) P,fU y.1/\fU y.2:=fun P y hy=>by
  obtain⟨h1,h2,_⟩:=zE.1 hy
  unfold fU;omega
 have hE:(tQ (dK b)).length<=1000000:=qQ (QV _) (by have:=pW X4 X4;omega)
 have hEr:∀y∈tQ (dK b),cE (bZ (dK b)) y.1/\cE (bZ (dK b)) y.2:=fun y hy=>by
  have:=(BG.1 hy).lt
  unfold cE;omega
 refine tq trivial ?_;intro Nx aB Gx aF
 refine(hex _).mono ?_
 rintro d _ ⟨S,⟨hSl,hS⟩,rfl,rfl⟩
 have aFD:∀y∈S,fU y.1/\fU y.2:=fun y hy=>by
  have h1:=(hS y).1 hy
  have h2:=YQ h1
  have h3:=aCR h1
  unfold cE at h2;unfold fU;omega
 have hwi:∀y∈tO (mO b).length (bZ (dK b)) (qN b),∀H1,bE prog 21 [.agg (fcD (mO b) (tQ (dK b)) (tO (mO b).length (bZ (dK b)) (rW b)) (tO (mO b).length (bZ (dK b)) (qN b)) (iH S)),i64 y.1,i64 y.2] H1 fun d H'=>(∃w:List Int,d=.seq 1 (w.map iD)/\(w≠[]↔y∈rZ b))/\H1=H':=fun y hy H1=>by
  obtain⟨h1,h2,_⟩:=zE.1 hy
  obtain⟨i,hi⟩:∃i:Nat,y.1=i:=⟨y.1.toNat,by omega⟩
  have aV:i<(mO b).length:=by omega
  have h:=aPa (mO b) (tQ (dK b)) (tO (mO b).length (bZ (dK b)) (rW b)) (tO (mO b).length (bZ (dK b)) (qN b)) (iH S) (bZ (dK b)) i aV y.2 H1 (by omega) jY (by have:=zB (rW b);unfold dO;omega) (by have:=zB (qN b);unfold dO;omega) (by rw[jJ];unfold dO;omega) hE (aBq _) (aBq _) (fun y hy=>aFD y (uP.1 hy)) hEr (ck.lr _ (bU aV)) (by unfold HC;omega)
  rw[<-hi] at h
  refine h.mono ?_
  rintro d H' ⟨⟨w,rfl,hw⟩,rfl⟩
  refine⟨⟨w,rfl,hw.trans ?_⟩,rfl⟩
  rw[<-aP9 b hS y hy]
  have hg:(mO b)[y.1.toNat]?=some (mO b)[i]:=by rw[hi,bI];exact bX aV
  constructor
  ·exact fun h=>⟨_,h1.1,hg,h⟩
  ·rintro⟨l,_,h4,h5⟩
   rw[hg] at h4
   injection h4 with h4
   subst h4
   exact h5
 have mM:=aKG b
 have aYD:(tO (mO b).length (bZ (dK b)) (qN b)).length<=1300000:=qQ (zB _) xY
 have hVl:(rZ b).length<=1300000:=qQ (zB (VP b)) xY
 have T8:∀y∈tO (mO b).length (bZ (dK b)) (qN b),fU y.1/\fU y.2:=aBq _
 clear aBq zB hEr hE aFD xY
 unfold fcD at hwi
 obtain⟨L,hL⟩:∃L,L=iH S:=⟨_,rfl⟩
 obtain⟨E,hE⟩:∃E,E=tQ (dK b):=⟨_,rfl⟩
 obtain⟨K,hK⟩:∃K,K=tO (mO b).length (bZ (dK b)) (rW b):=⟨_,rfl⟩
 obtain⟨Vp,hVp⟩:∃Vp,Vp=tO (mO b).length (bZ (dK b)) (qN b):=⟨_,rfl⟩
 obtain⟨LD,hLD⟩:∃LD,LD=D.seq 5 ((mO b).map vS):=⟨_,rfl⟩
 obtain⟨V,hV⟩:∃V,V=rZ b:=⟨_,rfl⟩
 rw[<-hL,<-hE,<-hK,<-hVp,<-hLD]
 rw[<-hL,<-hE,<-hK,<-hVp,<-hLD,<-hV] at hwi
 rw[<-hVp,<-hV] at mM
 rw[<-hVp] at aYD T8
 rw[<-hV] at hVl gV
 have aQK:(Vp.map pD).length=Vp.length:=bC _
 have hVm:(V.map pD).length=V.length:=bC _
 refine tq trivial ?_;intro Nx aB Gx aF
 intro c3 j5
 refine aB _ ?_
 refine fZ 3 j5 ?_
 refine tq trivial ?_;intro Nx aB Gx aF
 refine(gV _).mono ?_
 rintro d _ ⟨rfl,rfl⟩
 refine tq aQK ?_;intro Nx aB Gx aF
 have a1v:((Vp.take 0).filter fun y=>decide (y∈V)).length=0:=rfl
 refine aZ Vp.length (fun i s=>s.df=[]/\s.fr 3=.rp [LD,.seq 2 (E.map pD),.seq 2 (K.map pD),.seq 2 (Vp.map pD),.seq 2 (L.map pD)]/\s.fr 5=.seq 2 (V.map pD)/\s.fr 7=i64 (((Vp.take i).filter fun y=>decide (y∈V)).length:Nat)/\s.fr 32=.seq 2 (Vp.map pD)/\s.fr 33=i64 Vp.length/\s.fr 34=i64 i/\s.H=aC.none) ⟨rfl,rfl,rfl,rfl,rfl,rfl,rfl,rfl⟩ ?_
 rintro i s hi ⟨aT,f3,f5,f7,f32,f33,f34,hH⟩
 have hx:=bI i
 have cJ:=bM i
 by_cases aV:i<Vp.length
 case neg=>
  have q6:=lF i Vp.length (by omega)
  rw[cW (by omega),mM] at f7
  refine tq (eA f33 f34 q6) ?_;intro Nx aB Gx aF
  refine(kQ _).mono ?_
  rintro d _ ⟨rfl,rfl⟩
  refine tq (eA f5 f7 hVm) ?_;intro Nx aB Gx aF
  refine rt aD aT ?_
  exact⟨_,aG _⟩
 have cC:(i:Int)<(Vp.length:Int):=by omega
 have q6:((i:Int)<(Vp.length:Int))=True:=aK cC
 have w3:=wS i (by omega)
 have cD:(Vp.map pD)[i]?=some (pD Vp[i]):=fY aV
 have pY:Vp.take (i+1)=Vp.take i++[Vp[i]]:=dH aV
 have hw:=hwi Vp[i] (bU aV)
 obtain⟨x,T7⟩:∃x,x=Vp[i]:=⟨_,rfl⟩
 rw[<-T7] at cD pY hw
 obtain⟨a,p⟩:=x
 simp only[pD] at cD
 simp only at hw
 obtain⟨ct,BC⟩:∃ct,ct=((Vp.take i).filter fun y=>decide (y∈V)).length:=⟨_,rfl⟩
 have a1w:ct<=i:=by rw[BC];exact qQ (r9 _ _) (List.length_take_le _ _)
 have aKX:((Vp.take (i+1)).filter fun y=>decide (y∈V)).length=ct+(if (a,p)∈V then 1 else 0):=by
  rw[pY,tM,bN,<-BC]
  by_cases hv:(a,p)∈V
  ·simp [List.filter_cons,hv]
  ·simp [List.filter_cons,hv]
 rw[<-BC] at f7
 refine tq (nN f32 f33 f34 aQK q6 cD hx cJ aV cC) ?_;intro Nx aB Gx aF
 intro c9 Z4
 refine aB _ ?_
 refine fZ 9 Z4 ?_
 refine tq (dG f3 hH) ?_;intro Nx aB Gx aF
 refine(hw _).mono ?_
 rintro d _ ⟨⟨w,rfl,hwv⟩,rfl⟩
 have hwl:(w.map iD).length=w.length:=bC _
 have TE:=fun H1=>aBk V (a,p) H1 (by omega)
 simp only at TE
 by_cases hv:(a,p)∈V
 ·have q8:((0:Int)<(w.length:Int))=True:=aK (by have:=List.length_pos_iff.2 (hwv.2 hv);omega)
  have w5:=wS ct (by omega)
  rw[bG hv] at TE
  rw[aE hv] at aKX
  refine tq (eA f5 hwl q8) ?_;intro Nx aB Gx aF
  refine(TE _).mono ?_
  rintro d _ ⟨rfl,rfl⟩
  refine tq (gQ f7 f34 w3 w5) ?_;intro Nx aB Gx aF
  exact⟨aV,aT,f3,f5,by rw[aKX] <;> rfl,f32,f33,rfl,rfl⟩
 ·have q8:((0:Int)<(w.length:Int))=False:=aI (by
   have:w=[]:=jO fun h=>hv (hwv.1 h)
   rw[this];decide)
  rw[bB hv] at TE
  rw[aA hv,u6] at aKX
  refine tq (eA f5 hwl q8) ?_;intro Nx aB Gx aF
  refine(TE _).mono ?_
  rintro d _ ⟨rfl,rfl⟩
  refine tq (dG f34 w3) ?_;intro Nx aB Gx aF
  exact⟨aV,aT,f3,f5,by rw[aKX];exact f7,f32,f33,rfl,rfl⟩
theorem IW (x0:X) (v0:Value) (w:World) (o0:DT.ok (DT.struct [DT.string,DT.slice 1 16 (DT.string),DT.slice 2 16 (DT.array 2 (DT.int .i64)),DT.slice 5 56 (DT.struct [DT.int .i64,DT.bool,DT.int .i64,DT.int .i64,DT.slice 1 8 (DT.int .i64)]),DT.slice 2 24 (DT.struct [DT.string,DT.int .i64]),DT.int .i64,DT.slice 7 128 (DT.struct [DT.slice 11 136 (DT.struct [DT.int .i64,DT.struct [DT.int .i64,DT.slice 2 16 (DT.struct [DT.int .i64,DT.int .i64])],DT.struct [DT.int .i64,DT.int .i64,DT.int .i64,DT.bool,DT.struct [DT.int .i64,DT.slice 2 16 (DT.struct [DT.int .i64,DT.int .i64])],DT.slice 4 48 (DT.struct [DT.int .i64,DT.struct [DT.int .i64,DT.slice 2 16 (DT.struct [DT.int .i64,DT.int .i64])],DT.int .i64])],DT.int .i64]),DT.struct [DT.int .i64,DT.slice 1 8 (DT.int .i64),DT.slice 4 48 (DT.struct [DT.int .i64,DT.struct [DT.int .i64,DT.slice 2 16 (DT.struct [DT.int .i64,DT.int .i64])],DT.int .i64]),DT.struct [DT.int .i64,DT.slice 2 16 (DT.struct [DT.int .i64,DT.int .i64])],DT.string]])]) x0) (i0:D.is w aC.none.others x0.d v0) (hG:DW w aC.none):
  Calls prog 7 #[v0] w fun e w'=>e=.returned (.bool true)/\Below w.heap.size w w':=by
 obtain⟨a,ha,YF⟩:=J2 o0
 rw[ha] at i0
 exact KI (aOt a YF) ⟨_,_,rfl,i0,rfl⟩ hG
end Go.Proofs.YtfiipaodjpiooaaGreatDoor

