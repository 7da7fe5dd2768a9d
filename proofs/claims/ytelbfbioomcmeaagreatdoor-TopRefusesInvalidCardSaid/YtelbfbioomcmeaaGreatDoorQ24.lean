/- Lemmas and contracts of functions, several texts in one. -/
import Derived.Test.YtelbfbioomcmeaaGreatDoorQ19
import Derived.Test.YtelbfbioomcmeaaGreatDoorQ23
set_option maxRecDepth 100000
set_option maxHeartbeats 4000000
set_option linter.all false
namespace Go.Proofs.YtelbfbioomcmeaaGreatDoor
open Go.RowKit
open Tryz
theorem aHf (ts:List cQ) (i:Int) (x:Int×Int) (H:aA) (hi:dG ts.length i) (hx:0<=x.2) (ha:(cJ ts i).ar.length<=1000000):aT prog 407 [.seq 5 (ts.map cE),i64 i,.agg [i64 x.1,i64 x.2]] H fun d H'=>d=.agg [i64 (iH ts i x).1,i64 (iH ts i x).2]/\H=H':=by
 refine bM (K:=fun d=>d=.agg [i64 (iH ts i x).1,i64 (iH ts i x).2]) ?_
 obtain⟨t,ht⟩:∃t,t=cJ ts i:=⟨_,rfl⟩
 have b8:=kC hi
 have aZ:i.toNat<ts.length:=by unfold dG at hi;omega
 have cL:0<=i:=by unfold dG at hi;omega
 have cI:=lm cE ts
 obtain⟨k,f⟩:=x
 have hp:iH ts i (k,f)=if k=0/\t.k=3 then (t.e,0) else if k=1/\t.k=4 then (if f<t.ar.length then (t.ar.getD f.toNat 0,0) else (0,3)) else (0,22):=by rw[ht];rfl
 rw[<-ht] at b8 ha
 obtain⟨y,hy⟩:∃y,y=iH ts i (k,f):=⟨_,rfl⟩
 rw[<-hy] at hp ⊢
 clear hy ht
 obtain⟨tk,tm,tr,te,ta⟩:=t
 simp only[cE] at b8
 simp only at ha hx hp
 have oV:=lm iD ta
 refine aN _ _ func407 rfl rfl ntmps407 results407 (by simp) fun w0 g0 Q aC=>?_
 refine tq (fJ b8 aZ cL cI) ?_;intro Nx aB Gx aG
 intro c5 pT c6 JX
 refine aB _ ?_
 have fP:c5≠c6:=rP (aQ _ _ _) JX
 obtain⟨_,aIm⟩:=bT.1 JX
 refine bS 5 rfl ((aP fP).trans (aQ _ _ _)) rfl ?_
 refine eZ (H.bH c6 (.row 436 0 2 [[i64 0,i64 0]])) (fun x z hz=>?_) ?_
 ·show(((H.bH c5 _).bH c6 _).del c5) x=_
  by_cases e6:x=c6
  ·subst e6
   rw[aQ] at hz
   rw[bP fP.symm,aQ]
   exact hz
  rw[aP e6] at hz
  have e5:x≠c5:=fun e=>by rw[e,pT] at hz;cases hz
  rw[bP e5,aP e6,aP e5]
  exact hz
 simp only[St.gU,List.drop]
 have eJ:H.le (H.bH c6 (.row 436 0 2 [[i64 0,i64 0]])):=bQ (aE _) aIm
 have z6:(H.bH c6 (.row 436 0 2 [[i64 0,i64 0]])) c6=some (.row 436 0 2 [[i64 0,i64 0]]):=aQ _ _ _
 obtain⟨H6,hH6⟩:∃H6,H6=H.bH c6 (.row 436 0 2 [[i64 0,i64 0]]):=⟨_,rfl⟩
 rw[<-hH6] at eJ z6 ⊢
 refine tq (fJ b8 aZ cL cI) ?_;intro Nx aB Gx aG
 intro c7 NR
 refine aB _ ?_
 refine fW 7 NR ?_
 have fin:∀(y:Int×Int),H.le (H6.bH c6 (.row 436 0 2 [[i64 y.1,i64 y.2]])):=fun y b x hb=>by
  rw[aP (fun e=>by rw[e,aIm] at hb;cases hb)]
  exact eJ b x hb
 rcases SH (k=0) with⟨_,k0,⟨rfl,h0⟩|⟨rfl,h0⟩⟩
 ·have k1:(k=1)=False:=aI (by omega)
  rcases SH (tk=3) with⟨_,q3,⟨rfl,h3⟩|⟨rfl,h3⟩⟩
  ·have e:y=(te,0):=hp.trans (aH ⟨h0,h3⟩)
   refine tq (fJ k0 z6 oV q3) ?_;intro Nx aB Gx aG;refine rt aC trivial ?_;exact⟨_,aE _,fin (_,_),_,aJ (fin (_,_)),by rw[e]⟩
  ·have e:y=(0,22):=hp.trans (by rw[aD (fun h=>h3 h.2),aD (fun h=>by omega)])
   refine tq (gE k0 z6 oV q3 k1) ?_;intro Nx aB Gx aG;refine rt aC trivial ?_;exact⟨_,aE _,fin (_,_),_,aJ (fin (_,_)),by rw[e]⟩
 rcases SH (k=1) with⟨_,k1,⟨rfl,h1⟩|⟨rfl,h1⟩⟩
 case inr=>
  have e:y=(0,22):=hp.trans (by rw[aD (fun h=>h0 h.1),aD (fun h=>h1 h.1)])
  refine tq (fJ k0 z6 oV k1) ?_;intro Nx aB Gx aG;refine rt aC trivial ?_;exact⟨_,aE _,fin (_,_),_,aJ (fin (_,_)),by rw[e]⟩
 rcases SH (tk=4) with⟨_,q4,⟨rfl,h4⟩|⟨rfl,h4⟩⟩
 case inr=>
  have e:y=(0,22):=hp.trans (by rw[aD (fun h=>h0 h.1),aD (fun h=>h4 h.2)])
  refine tq (gE k0 z6 oV k1 q4) ?_;intro Nx aB Gx aG;refine rt aC trivial ?_;exact⟨_,aE _,fin (_,_),_,aJ (fin (_,_)),by rw[e]⟩
 rw[aD (fun h=>h0 h.1),aH ⟨h1,h4⟩] at hp
 rcases SH (f<(ta.length:Int)) with⟨_,f1,⟨rfl,h5⟩|⟨rfl,h5⟩⟩
 ·have kQ:f.toNat<ta.length:=by omega
  have hgf:(ta.map iD)[f.toNat]?=some [i64 ta[f.toNat]]:=dL kQ
  have e:y=(ta[f.toNat],0):=hp.trans (by rw[aH h5,l6,cP kQ] <;> rfl)
  refine tq (yP k0 z6 oV k1 q4 f1 hgf hx kQ) ?_;intro Nx aB Gx aG;refine rt aC trivial ?_;exact⟨_,aE _,fin (_,_),_,aJ (fin (_,_)),by rw[e]⟩
 ·have e:y=(0,3):=hp.trans (aD h5)
  refine tq (jA k0 z6 oV k1 q4 f1) ?_;intro Nx aB Gx aG;refine rt aC trivial ?_;exact⟨_,aE _,fin (_,_),_,aJ (fin (_,_)),by rw[e]⟩
def rfN (ts:List cQ):Prop:=∀t∈ts,t.k=3->t.ar=[]
theorem zG {ts:List cQ} {a:Int} (h:dG ts.length a):cJ ts a∈ts:=by
 obtain⟨h',he⟩:=vA h
 rw[he];exact bZ h'
theorem Z6 {ts:List cQ} {n:Int} (h:∀i (h:i<ts.length),Ok1 (ts.take i) n ts[i]):rfN ts:=fun t ht h3=>by
 obtain⟨i,hi,rfl⟩:=wM ht
 exact(h i hi).fl (by omega)
def aHh (x:Nat×Int×Int):List D:=[i64 x.1,.agg [i64 x.2.1,i64 x.2.2]]
theorem V4 {lc:List tD} {a:Int} (h:0<=a/\a<lc.length):(lc.map lI)[a.toNat]?=some (lI (sO lc a)):=by
 obtain⟨h',e⟩:=RD h
 rw[cR,cP h',e];rfl
def XW (ts:List cQ):Prop:=∀t∈ts,t.ar.length<=1000000
theorem W5 (ts:List cQ) (lc:List tD) (p:pO) (hw:vY ts) (hl:S7 ts lc) (ha:XW ts) (hp:fC p.pr.length):TA prog 406 [.rp (kT p),.rp [.seq 2 (lc.map lI)],.rp [.seq 5 (ts.map cE)]] aHh (qT ts lc p) fun _=>True:=by
 have cI:=lm lI lc
 have hmp:=lm pD p.pr
 refine aBr _ func406 rfl rfl ntmps406 results406 (by simp) fun l J Jx H w0 g0 Q eX hJ hC hCx hY aC=>?_
 refine tq @kT.eq_1 ?_;intro Nx aB Gx aG
 refine(aCR p _ hp).mono ?_
 rintro d _ ⟨rfl,rfl⟩
 by_cases h1:iJ p=0
 case neg=>
  have q1:(iJ p=0)=False:=aI h1
  have hx:qT ts lc p=[(0,0,iJ p)]:=aH h1
  rw[hx] at hY aC
  (have fs:=q1;(iterate 6 (first|refine aG _ ?_|refine aB _ ?_|refine cX ?_|refine cW ?_|refine eH ?_|refine cF ?_|refine cG ?_|refine cC ?_|refine bO ?_|((first|refine tS fun Nx aB=>?_|refine mE rfl rfl (by kernel_rfl) (by kernel_rfl) fun Gx aG=>?_|refine cD (by kernel_rfl) ?_|refine lJ fun A B vJ vK=>?_);refine yR ?_;(first|refine aG _ ?_|refine aB _ ?_|refine vJ ?_|refine vK ?_|skip))));(try clear fs))
  refine pW [] (0,0,iJ p) rfl rfl rfl (by simp [BS]) hY (by simp) hJ rfl (fun H' hj=>?_) fun H' hj=>?_
  ·refine tq trivial ?_;intro Nx aB Gx aG
   exact aC _ _ (.inr rfl) rfl (.inl (.inl hj))
  ·refine tq trivial ?_;intro Nx aB Gx aG
   exact aC _ _ (.inr rfl) rfl (.inl (.inr ⟨_,hj⟩))
 have q1:(iJ p=0)=True:=aK h1
 have hp0:=pP h1
 have q1':¬iJ p≠0:=fun h=>h h1
 by_cases h2:(lc.length:Int)<=p.lo
 ·have q2:(p.lo≥(lc.length:Int))=True:=aK h2
  have hx:qT ts lc p=[(0,0,3)]:=by unfold qT;rw[aD q1',aH h2]
  rw[hx] at hY aC
  (have fs:=And.intro q1 (And.intro q2 cI);(iterate 11 (first|refine aG _ ?_|refine aB _ ?_|refine cX ?_|refine cW ?_|refine eH ?_|refine cF ?_|refine cG ?_|refine cC ?_|refine bO ?_|((first|refine tS fun Nx aB=>?_|refine mE rfl rfl (by kernel_rfl) (by kernel_rfl) fun Gx aG=>?_|refine cD (by kernel_rfl) ?_|refine lJ fun A B vJ vK=>?_);refine yR ?_;(first|refine aG _ ?_|refine aB _ ?_|refine vJ ?_|refine vK ?_|skip))));(try clear fs))
  refine pW [] (0,0,3) rfl rfl rfl (by simp [BS]) hY (by simp) hJ rfl (fun H' hj=>?_) fun H' hj=>?_
  ·refine tq trivial ?_;intro Nx aB Gx aG
   exact aC _ _ (.inr rfl) rfl (.inl (.inl hj))
  ·refine tq trivial ?_;intro Nx aB Gx aG
   exact aC _ _ (.inr rfl) rfl (.inl (.inr ⟨_,hj⟩))
 have q2:(p.lo≥(lc.length:Int))=False:=aI h2
 have jX:0<=p.lo/\p.lo<lc.length:=⟨hp0.1,by omega⟩
 have cL:=jX.1
 have aZ:p.lo.toNat<lc.length:=by omega
 have hgl:=V4 jX
 have hli:=G0 hl jX
 simp only[lI] at hgl
 have hx:qT ts lc p=[]++qH ts 0 ((sO lc p.lo).ty,0) (p.pr.drop 0):=by unfold qT;rw[aD q1',aD h2];rfl
 refine tq (jA q1 q2 cI hgl cL aZ) ?_;intro Nx aB Gx aG
 intro c6 JX
 refine aB _ ?_
 refine tq trivial ?_;intro Nx aB Gx aG
 have IP:p.pr.length<=32:=hp0.2.1
 have hyj:YJ J [] c6 (.row 436 0 2 [[i64 (sO lc p.lo).ty,i64 0]]) (H.bH c6 (.row 436 0 2 [[i64 (sO lc p.lo).ty,i64 0]])):=⟨H,rfl,fun z hz=>by rw[JX] at hz;(cases hz),hJ⟩
 refine bB p.pr.length (fun i s=>s.df=[]/\s.fr 0=yD l/\s.fr 1=.rp [i64 p.lo,.seq 2 (p.pr.map pD)]/\s.fr 3=.rp [.seq 5 (ts.map cE)]/\s.fr 6=.ep c6 0 2 0 0/\s.fr 7=i64 i/\∃(y:Int×Int) (pre:List (Nat×Int×Int)),(y.2=0->dG ts.length y.1)/\qT ts lc p=pre++qH ts i y (p.pr.drop i)/\YJ J pre c6 (.row 436 0 2 [[i64 y.1,i64 y.2]]) s.H) ⟨rfl,rfl,rfl,rfl,rfl,rfl,_,_,fun _=>hli,hx,hyj⟩ ?_
 clear hx hyj
 rintro i s hi ⟨bG,f0,f1,f3,f6,f7,y,pre,hyi,hx,hyj⟩
 have PC:=bL i
 have h0i:=bY i
 have oA:(pre++[(i,y)])<+:qT ts lc p:=by
  rw[hx]
  cases p.pr.drop i with
  |nil=>exact List.prefix_rfl
  |cons a m=>exact⟨_,by rw[dN] <;> rfl⟩
 have hz6:∀{J':List (Nat×Int×Int)->aA->Prop} {aXy H'},YJ J' aXy c6 (.row 436 0 2 [[i64 y.1,i64 y.2]]) H'->H' c6=some (.row 436 0 2 [[i64 y.1,i64 y.2]]):=fun ⟨_,e,_⟩=>by rw[e,aQ]
 have z6:=hz6 hyj
 (have fs:=And.intro f0 (And.intro f1 (And.intro f3 (And.intro f6 (And.intro f7 z6))));(iterate 3 (first|refine aG _ ?_|refine aB _ ?_|refine cX ?_|refine cW ?_|refine eH ?_|refine cF ?_|refine cG ?_|refine cC ?_|refine bO ?_|((first|refine tS fun Nx aB=>?_|refine mE rfl rfl (by kernel_rfl) (by kernel_rfl) fun Gx aG=>?_|refine cD (by kernel_rfl) ?_|refine lJ fun A B vJ vK=>?_);refine yR ?_;(first|refine aG _ ?_|refine aB _ ?_|refine vJ ?_|refine vK ?_|skip))));(try clear fs))
 refine XR pre (i,y) rfl rfl rfl (by simp [BS]) hY hC JX oA hyj rfl (fun H' hj=>?_) fun H' hj=>?_
 case refine_2=>
  have z7:=hz6 hj
  refine tq (jA f0 f1 f3 f6 f7 z7) ?_;intro Nx aB Gx aG
  exact aC _ _ (.inl rfl) bG (.inr ⟨c6,_,_,_,_,JX,.inr ⟨_,hj⟩⟩)
 have z7:=hz6 hj
 by_cases h3:y.2=0
 case neg=>
  have q3:(y.2=0)=False:=aI h3
  have hx3:qT ts lc p=pre++[(i,y)]:=by
   rw[hx]
   cases p.pr.drop i with
   |nil=>rfl
   |cons a m=>simp only[qH];rw[aH h3]
  rw[<-hx3] at hj
  refine tq (lM f0 f1 f3 f6 f7 z7 q3) ?_;intro Nx aB Gx aG
  exact aC _ _ (.inl rfl) bG (.inr ⟨c6,_,_,_,_,JX,.inl hj⟩)
 have q3:(y.2=0)=True:=aK h3
 by_cases CR:i<p.pr.length
 case neg=>
  have q4:=lF i p.pr.length (by omega)
  have hx3:qT ts lc p=pre++[(i,y)]:=by rw[hx,dX (by omega)];rfl
  rw[<-hx3] at hj
  refine tq (yP f0 f1 f3 f6 f7 z7 q3 q4 hmp) ?_;intro Nx aB Gx aG
  exact aC _ _ (.inl rfl) bG (.inr ⟨c6,_,_,_,_,JX,.inl hj⟩)
 have q4:=lT i p.pr.length (by omega)
 have w3:=wS i (by omega)
 have b8:=yU CR
 have aHI:=hyi h3
 have dK:∀H1,dY prog 407 [.seq 5 (ts.map cE),i64 y.1,.agg [i64 p.pr[i].1,i64 p.pr[i].2]] H1 fun d A=>A=aA.none/\d=.agg [i64 (iH ts y.1 p.pr[i]).1,i64 (iH ts y.1 p.pr[i]).2]:=fun H1=>bN fun eL eO=>aHf ts y.1 p.pr[i] eL aHI (HT hp0.2.2 _ (bZ CR)).2 (ha _ (zG aHI))
 have hx3:qT ts lc p=(pre++[(i,y)])++qH ts (i+1) (iH ts y.1 p.pr[i]) (p.pr.drop (i+1)):=by
  rw[hx,dI CR,dN]
  simp only[qH]
  rw[aD (fun h=>h h3)];rfl
 refine tq (yP f0 f1 f3 f6 f7 z7 q3 q4 hmp) ?_;intro Nx aB Gx aG
 refine wE (fun _=>false) (fun _=>false) (fun _ _ d A=>A=.none/\d=.agg [i64 (iH ts y.1 p.pr[i]).1,i64 (iH ts y.1 p.pr[i]).2]) (fun _ _ _ _ _=>False) fun Nx aB=>?_;have fs:=And.intro f1 (And.intro f3 (And.intro f6 (And.intro f7 (And.intro z7 (And.intro hmp (And.intro b8 (And.intro PC (And.intro h0i CR))))))));refine VV ?_;(first|refine aG _ ?_|refine aB _ ?_|skip);(try clear fs)
 refine⟨dK _,?_⟩
 refine tq (cZ f7 w3) ?_;intro Nx aB Gx aG
 obtain⟨Hc,e,hz,hj0⟩:=hj
 refine⟨CR,bG,f0,f1,f3,f6,rfl,iH ts y.1 p.pr[i],pre++[(i,y)],fun h=>US hw aHI h,hx3,Hc,?_,hz,hj0⟩
 show H'.bH c6 _=_
 rw[e,DS];rfl
theorem aCQ (ts:List cQ) (lc:List tD) (p:pO) (H:aA):aT prog 338 [.seq 5 (ts.map cE),.seq 2 (lc.map lI),.agg (kT p)] H fun d H'=>d=.fn 406 [.rp (kT p),.rp [.seq 2 (lc.map lI)],.rp [.seq 5 (ts.map cE)]]/\H=H':=by
 refine aN _ _ func338 rfl rfl ntmps338 results338 (by simp) fun w0 g0 Q aC=>?_
 refine tq @kT.eq_1 ?_;intro Nx aB Gx aG
 intro c3 mH c4 wQ c5 pT
 refine aB _ ?_
 obtain⟨n43,wQ⟩:=bT.1 wQ
 obtain⟨n54,pT⟩:=bT.1 pT
 obtain⟨n53,pT⟩:=bT.1 pT
 refine bS 3 rfl ((aP n53.symm).trans ((aP n43.symm).trans (aQ _ _ _))) rfl ?_
 refine bS 4 rfl ((bP n43).trans ((aP n54.symm).trans (aQ _ _ _))) rfl ?_
 refine bS 5 rfl ((bP n54).trans ((bP n53).trans (aQ _ _ _))) rfl ?_
 refine eZ H (fun x z hz=>?_) ?_
 ·have e3:x≠c3:=fun e=>by rw[e,mH] at hz;cases hz
  have e4:x≠c4:=fun e=>by rw[e,wQ] at hz;cases hz
  have e5:x≠c5:=fun e=>by rw[e,pT] at hz;cases hz
  show((((((H.bH c3 _).bH c4 _).bH c5 _).del c3).del c4).del c5) x=_
  rw[bP e5,bP e4,bP e3,aP e5,aP e4,aP e3]
  exact hz
 simp only[St.gU,List.drop]
 refine tq trivial ?_;intro Nx aB Gx aG
 refine rt aC trivial ?_
 exact⟨_,aE _,rfl,rfl⟩
def RF (pre:List (Nat×Int×Int)):Int×Int:=match pre.getLast? with
 |some x=>x.2
 |none=>(0,0)
theorem ZT (pre:List (Nat×Int×Int)) (x:Nat×Int×Int):RF (pre++[x])=x.2:=by
 unfold RF;rw[List.getLast?_concat]
theorem aCF (ts:List cQ) (lc:List tD) (p:pO):RF (qT ts lc p)=bU ts lc p:=by
 obtain⟨j,h⟩:=L7 ts lc p
 unfold RF;rw[h]
def ToI (c8:Nat) (pre:List (Nat×Int×Int)) (Hc:aA):Prop:=Hc c8=some (.row 436 0 2 [[i64 (RF pre).1,i64 (RF pre).2]])
theorem aCp (ts:List cQ) (lc:List tD) (p:pO) (hw:vY ts) (hl:S7 ts lc) (ha:XW ts) (hp:fC p.pr.length):aT prog 257 [.seq 5 (ts.map cE),.seq 2 (lc.map lI),.agg (kT p)] .none fun d _=>d=.fV [i64 (bU ts lc p).1,i64 (bU ts lc p).2]:=by
 refine xR _ _ func257 rfl rfl ntmps257 results257 (by simp) fun w0 g0 Q aC=>?_
 refine tq @kT.eq_1 ?_;intro Nx aB Gx aG
 intro c5 pT
 refine aB _ ?_
 refine fW 5 pT ?_
 refine tq trivial ?_;intro Nx aB Gx aG
 intro c8 NS
 refine aB _ ?_
 refine tq trivial ?_;intro Nx aB Gx aG
 have Q2:=aCQ ts lc p (aA.none.bH c8 (.row 436 0 2 [[i64 0,i64 0]]))
 simp only[kT] at Q2
 refine Q2.mono ?_
 rintro d _ ⟨rfl,rfl⟩
 refine tq trivial ?_;intro Nx aB Gx aG
 obtain⟨H2,iW⟩:∃H2,H2=aA.none.bH c8 (.row 436 0 2 [[i64 0,i64 0]]):=⟨_,rfl⟩
 have e80:H2 c8=some (.row 436 0 2 [[i64 0,i64 0]]):=by rw[iW];exact aQ _ _ _
 have a00:∀b,b≠c8->H2 b=none:=fun b hb=>by rw[iW,aP hb];rfl
 simp only[i64] at iW
 rw[<-iW]
 clear iW
 refine PN (fun s=>s.df=[]/\s.fr 8=.ep c8 0 2 0 0/\s.fr 14=.fn 406 [.rp (kT p),.rp [.seq 2 (lc.map lI)],.rp [.seq 5 (ts.map cE)]]/\s.H=H2) ⟨rfl,rfl,rfl,rfl⟩ ?_
 rintro s ⟨bG,f8,f14,hsH⟩
 refine pX rfl (W5 ts lc p hw hl ha hp) f14 (fun _ _=>trivial) (by simp) (fun _=>rfl) (ToI c8) (fun _ _ _=>False) ?_ ?_ ?_ ?_ ?_ ?_
 ·intro pre H1 H2 hr h
  exact hr _ _ h (by simp)
 ·intro _ _ _ _ _ h
  exact h
 ·show s.H c8=_
  rw[hsH];exact e80
 ·rintro l w1 pre x Hc o g1 oA hi rU s7
  rw[aHh,aHn]
  refine tq (gE fH fM eQ cB bG) ?_;intro Nx aB Gx aG
  intro c10 NP
  refine aB _ ?_
  simp only[fL]
  refine⟨rfl,mC.new (rV _) NP,fun w2 y g2=>?_⟩
  have l5:l≠c10:=fun e=>by rw[e,NP] at s7;cases s7
  have n8:c8≠l:=fun e=>by unfold ToI at hi;rw[e,s7] at hi;cases hi
  refine bS 10 rfl (b:=c10) (by simp only[kN,fM,oN];rw[aP (Ne.symm l5),aQ]) rfl ?_
  simp only[St.gU,kN,fM,oN,gV,cB,l4,pK (Ne.symm l5),nV,oU NP,List.drop]
  have NW:=fun (x:gB) (hx:∀o,x≠ .obj o)=>y9 (H:=Hc) (b:=c10) (l:=l) (y:=y) hx
  have r8:(Hc.bH l (.obj y)) c8=some (.row 436 0 2 [[i64 (RF pre).1,i64 (RF pre).2]]):=(aP n8).trans hi
  refine tq (jA f8 fH fM eQ cB r8) ?_;intro Nx aB Gx aG
  simp only[iC,fK]
  refine⟨rfl,(NW _ (by simp)).row r8 (by simp),?_⟩
  unfold ToI
  rw[ZT]
  exact aQ _ _ _
 ·rintro Hc M hi rU hD QE
  rw[D3,fK,fL,bG]
  unfold ToI at hi
  rw[aCF] at hi
  refine bO ?_
  refine dE (fun _ _ _ _=>False) fun Nx aB=>?_;refine dst (jA f8 fH fM eQ cB hi) ?_;intro Nx aB Gx aG
  rw[fL]
  refine eH ?_
  refine aC _ _ (.inr rfl) ?_ ?_
  ·(have fs:=f8;refine evG ?_;clear fs)
   exact mk1 hD
  ·simp only[yF,eQ,LS]
   (have fs:=f8;refine evG ?_;clear fs)
   exact⟨aA.none,wJ _⟩
 ·rintro e c pre Hc M hj h2
  exact h2.elim
theorem aCq (ts:List cQ) (lc:List tD) (p:pO) (H:aA) (hw:vY ts) (hl:S7 ts lc) (ha:XW ts) (hp:fC p.pr.length):aT prog 257 [.seq 5 (ts.map cE),.seq 2 (lc.map lI),.agg (kT p)] H fun d H'=>d=.fV [i64 (bU ts lc p).1,i64 (bU ts lc p).2]/\H=H':=
 yE (aCp ts lc p hw hl ha hp) rfl (aZP (nG _ _) (nG _ _) (nG _ _))
theorem aED (l:List (Int×Int)) (f:FuncId) (g:(Int×Int)->Bool) (H:aA) (hl:fC l.length) (hf:∀x∈l,∀H1,aT prog f [.agg (pD x)] H1 fun d H'=>d=.val (.bool (g x))/\H1=H'):
  aT prog 319 [.seq 2 (l.map pD),.fn f []] H fun d H'=>∃r,d=i64 r/\decide (0<=r)=l.any g/\H=H':=by
 have cI:=lm pD l
 unfold fC at hl
 refine aN _ _ func319 rfl rfl ntmps319 results319 (by simp) fun w0 g0 Q aC=>?_
 refine tq cI ?_;intro Nx aB Gx aG
 refine bB l.length (fun i s=>s.df=[]/\s.fr 0=.seq 2 (l.map pD)/\s.fr 1=.fn f []/\s.fr 7=i64 l.length/\s.fr 8=i64 i/\s.H=H/\l.any g=(l.drop i).any g) ⟨rfl,rfl,rfl,rfl,rfl,rfl,rfl⟩ ?_
 rintro i s hi ⟨bG,f0,f1,f7,f8,hH,ha⟩
 have hx:=bL i
 have cL:=bY i
 by_cases aZ:i<l.length
 case neg=>
  have q6:=lF i l.length (by omega)
  rw[dX (by omega)] at ha
  refine tq (dZ f7 f8 q6) ?_;intro Nx aB Gx aG
  refine rt aC bG ?_
  exact⟨H,(by show H.le s.H;rw[hH];exact aE _),-1,rfl,by rw[ha] <;> rfl,rfl⟩
 have q6:=lT i l.length (by omega)
 have w3:=wS i (by omega)
 have b8:(l.map pD)[i]?=some (pD l[i]):=by rw[cR,cP aZ];rfl
 have hq:=hf l[i] (bZ aZ) s.H
 rw[dI aZ,List.any_cons] at ha
 obtain⟨u,hu⟩:∃u,u=l[i]:=⟨_,rfl⟩
 rw[<-hu] at b8 ha hq
 obtain⟨gu,ZD⟩:∃b,b=g u:=⟨_,rfl⟩
 rw[<-ZD] at ha hq
 clear hf
 simp only[pD] at b8 hq
 refine tq (rF f0 f1 f7 f8 cI q6 b8 hx cL aZ) ?_;intro Nx aB Gx aG
 refine hq.mono ?_
 rintro d _ ⟨rfl,rfl⟩
 cases gu
 ·rw[wG] at ha
  refine tq (cZ f8 w3) ?_;intro Nx aB Gx aG
  exact⟨aZ,bG,f0,f1,f7,rfl,hH,ha⟩
 ·refine tq f8 ?_;intro Nx aB Gx aG
  refine rt aC bG ?_
  exact⟨H,(by show H.le s.H;rw[hH];exact aE _),i,rfl,by rw[ha];simp,rfl⟩
theorem aD2 (l:List (Int×Int)) (f:FuncId) (g:(Int×Int)->Bool) (H:aA) (hl:fC l.length) (hf:∀x∈l,∀H1,aT prog f [.agg (pD x)] H1 fun d H'=>d=.val (.bool (g x))/\H1=H'):
  aT prog 241 [.seq 2 (l.map pD),.fn f []] H fun d H'=>d=.val (.bool (l.any g))/\H=H':=by
 have hq:=aED l f g H hl hf
 refine aN _ _ func241 rfl rfl ntmps241 results241 (by simp) fun w0 g0 Q aC=>?_
 refine tq trivial ?_;intro Nx aB Gx aG
 refine hq.mono ?_
 rintro d _ ⟨r,rfl,hr,rfl⟩
 refine tq trivial ?_;intro Nx aB Gx aG
 refine rt aC trivial ?_
 exact⟨_,aE _,by rw[<-hr],rfl⟩
theorem aEE (l:List cQ) (f:FuncId) (g:cQ->Bool) (H:aA) (hl:fC l.length) (hf:∀x∈l,∀H1,aT prog f [.agg (cE x)] H1 fun d H'=>d=.val (.bool (g x))/\H1=H'):
  aT prog 326 [.seq 5 (l.map cE),.fn f []] H fun d H'=>∃r,d=i64 r/\decide (0<=r)=l.any g/\H=H':=by
 have cI:=lm cE l
 unfold fC at hl
 refine aN _ _ func326 rfl rfl ntmps326 results326 (by simp) fun w0 g0 Q aC=>?_
 refine tq cI ?_;intro Nx aB Gx aG
 refine bB l.length (fun i s=>s.df=[]/\s.fr 0=.seq 5 (l.map cE)/\s.fr 1=.fn f []/\s.fr 7=i64 l.length/\s.fr 8=i64 i/\s.H=H/\l.any g=(l.drop i).any g) ⟨rfl,rfl,rfl,rfl,rfl,rfl,rfl⟩ ?_
 rintro i s hi ⟨bG,f0,f1,f7,f8,hH,ha⟩
 have hx:=bL i
 have cL:=bY i
 by_cases aZ:i<l.length
 case neg=>
  have q6:=lF i l.length (by omega)
  rw[dX (by omega)] at ha
  refine tq (dZ f7 f8 q6) ?_;intro Nx aB Gx aG
  refine rt aC bG ?_
  exact⟨H,(by show H.le s.H;rw[hH];exact aE _),-1,rfl,by rw[ha] <;> rfl,rfl⟩
 have q6:=lT i l.length (by omega)
 have w3:=wS i (by omega)
 have b8:(l.map cE)[i]?=some (cE l[i]):=by rw[cR,cP aZ];rfl
 have hq:=hf l[i] (bZ aZ) s.H
 rw[dI aZ,List.any_cons] at ha
 obtain⟨u,hu⟩:∃u,u=l[i]:=⟨_,rfl⟩
 rw[<-hu] at b8 ha hq
 obtain⟨gu,ZD⟩:∃b,b=g u:=⟨_,rfl⟩
 rw[<-ZD] at ha hq
 clear hf
 simp only[cE] at b8 hq
 refine tq (rF f0 f1 f7 f8 cI q6 b8 hx cL aZ) ?_;intro Nx aB Gx aG
 refine hq.mono ?_
 rintro d _ ⟨rfl,rfl⟩
 cases gu
 ·rw[wG] at ha
  refine tq (cZ f8 w3) ?_;intro Nx aB Gx aG
  exact⟨aZ,bG,f0,f1,f7,rfl,hH,ha⟩
 ·refine tq f8 ?_;intro Nx aB Gx aG
  refine rt aC bG ?_
  exact⟨H,(by show H.le s.H;rw[hH];exact aE _),i,rfl,by rw[ha];simp,rfl⟩
theorem aD3 (l:List cQ) (f:FuncId) (g:cQ->Bool) (H:aA) (hl:fC l.length) (hf:∀x∈l,∀H1,aT prog f [.agg (cE x)] H1 fun d H'=>d=.val (.bool (g x))/\H1=H'):
  aT prog 330 [.seq 5 (l.map cE),.fn f []] H fun d H'=>d=.val (.bool (l.any g))/\H=H':=by
 have hq:=aEE l f g H hl hf
 refine aN _ _ func330 rfl rfl ntmps330 results330 (by simp) fun w0 g0 Q aC=>?_
 refine tq trivial ?_;intro Nx aB Gx aG
 refine hq.mono ?_
 rintro d _ ⟨r,rfl,hr,rfl⟩
 refine tq trivial ?_;intro Nx aB Gx aG
 refine rt aC trivial ?_
 exact⟨_,aE _,by rw[<-hr],rfl⟩
theorem aIn (x:Int×Int) (H:aA):aT prog 242 [.agg (pD x)] H fun d H'=>d=.val (.bool (decide (x.1=0)))/\H=H':=by
 refine bM (K:=fun d=>d=.val (.bool (decide (x.1=0)))) ?_
 have aR:=aE H
 refine aN _ _ func242 rfl rfl ntmps242 results242 (by simp) fun w0 g0 Q aC=>?_
 refine tq @pD.eq_1 ?_;intro Nx aB Gx aG
 intro c1 l9
 refine aB _ ?_
 refine fW 1 l9 ?_
 refine tq trivial ?_;intro Nx aB Gx aG
 refine rt aC trivial ?_
 exact⟨_,aE _,aR,_,aJ aR,rfl⟩
theorem aJ3 (x:cQ) (H:aA):aT prog 331 [.agg (cE x)] H fun d H'=>d=.val (.bool (!x.m))/\H=H':=by
 refine bM (K:=fun d=>d=.val (.bool (!x.m))) ?_
 have aR:=aE H
 refine aN _ _ func331 rfl rfl ntmps331 results331 (by simp) fun w0 g0 Q aC=>?_
 refine tq @cE.eq_1 ?_;intro Nx aB Gx aG
 intro c1 l9
 refine aB _ ?_
 refine fW 1 l9 ?_
 refine tq trivial ?_;intro Nx aB Gx aG
 refine rt aC trivial ?_
 exact⟨_,aE _,aR,_,aJ aR,rfl⟩
theorem V8 (p:pO) (H:aA) (hp:fC p.pr.length):aT prog 147 [.agg (kT p),i64 0] H fun d H'=>d=.val (.bool (tL p 0))/\H=H':=by
 refine bM (K:=fun d=>d=.val (.bool (tL p 0))) ?_
 have aR:=aE H
 have cI:=lm pD p.pr
 have aGo:=aD2 p.pr 242 (fun x=>decide (x.1=0)) H hp (fun x _ H1=>aIn x H1)
 unfold fC at hp
 refine aN _ _ func147 rfl rfl ntmps147 results147 (by simp) fun w0 g0 Q aC=>?_
 refine tq @kT.eq_1 ?_;intro Nx aB Gx aG
 intro c2 pZ
 refine aB _ ?_
 refine fW 2 pZ ?_
 have m0:max (0:Int) 0=0:=rfl
 have m1:min (0:Int) (p.pr.length:Int)=0:=by omega
 refine tq (dZ cI m0 m1) ?_;intro Nx aB Gx aG
 refine⟨by omega,aGo.mono ?_⟩
 rintro d _ ⟨rfl,rfl⟩
 refine tq trivial ?_;intro Nx aB Gx aG
 refine rt aC trivial ?_
 exact⟨_,aE _,aR,_,aJ aR,by unfold tL;rfl⟩
theorem aCU {l:List (Int×Int)} {k:Nat} (h:k<l.length):(l.map pD)[k]?=some [i64 (l.getD k (1,0)).1,i64 (l.getD k (1,0)).2]:=by
 rw[l6,cP h];exact yU h
theorem aC0 (ts:List cQ) (pr:List (Int×Int)) (pre:List (Nat×Int×Int)):(AQ ts pr pre).length<=pre.length:=by
 unfold AQ
 induction pre with
 |nil=>simp
 |cons x l ih=>
  rw[wO,bJ,fN]
  have:(if x.1<pr.length/\(pr.getD x.1 (1,0)).1=0 then [cJ ts x.2.1] else []).length<=1:=by split <;> simp
  omega
def RfI (H:aA) (ts:List cQ) (pr:List (Int×Int)) (c6 c7 c8:Nat) (pre:List (Nat×Int×Int)) (Hc:aA):Prop:=
 (∀x∈pre,x.2.2=0)/\H.le Hc/\Hc c6=some (.row 24 0 1 [[.val (.slice none 0 0)]])/\Hc c7=some (.row 4 0 1 [[.val (.bool false)]])/\∃x ob,Hc c8=some (.row 24 0 1 [[x]])/\Gl H 82 5 ((AQ ts pr pre).map cE) x Hc ob/\ob≠some c6/\ob≠some c7/\ob≠some c8
def RfX (H:aA) (c6 c7:Nat) (er:Int) (e:Exit) (Hc:aA):Prop:=
 e=.ret/\er≠0/\H.le Hc/\Hc c6=some (.row 24 0 1 [[.val (.slice none 0 0)]])/\Hc c7=some (.row 4 0 1 [[.val (.bool false)]])
theorem aCY (ts:List cQ) (lc:List tD) (p:pO) (H:aA) (hw:vY ts) (hl:S7 ts lc) (ha:XW ts) (hp:fC p.pr.length):aT prog 329 [.seq 5 (ts.map cE),.seq 2 (lc.map lI),.agg (kT p)] H fun d H'=>d=.fV [.seq 5 ((nZ ts lc p).map cE),.val (.bool (decide ((bU ts lc p).2=0)))]/\H=H':=by
 have hmp:=lm pD p.pr
 have iX:=lm cE ts
 refine bM (K:=fun d=>d=.fV [.seq 5 ((nZ ts lc p).map cE),.val (.bool (decide ((bU ts lc p).2=0)))]) ?_
 refine xR _ _ func329 rfl rfl ntmps329 results329 (by simp) fun w0 g0 Q aC=>?_
 refine tq @kT.eq_1 ?_;intro Nx aB Gx aG
 intro c3 mH c5 pT c6 JX c7 NR
 refine aB _ ?_
 obtain⟨n53,pT⟩:=bT.1 pT
 obtain⟨n65,JX⟩:=bT.1 JX
 obtain⟨n63,JX⟩:=bT.1 JX
 obtain⟨n76,NR⟩:=bT.1 NR
 obtain⟨n75,NR⟩:=bT.1 NR
 obtain⟨n73,NR⟩:=bT.1 NR
 refine bS 3 rfl ((aP n73.symm).trans ((aP n63.symm).trans ((aP n53.symm).trans (aQ _ _ _)))) rfl ?_
 refine bS 5 rfl ((bP n53).trans ((aP n75.symm).trans ((aP n65.symm).trans (aQ _ _ _)))) rfl ?_
 refine eZ ((H.bH c6 (.row 24 0 1 [[.val (.slice none 0 0)]])).bH c7 (.row 4 0 1 [[.val (.bool false)]])) (fun x z hz=>?_) ?_
 ·show((((((H.bH c3 _).bH c5 _).bH c6 _).bH c7 _).del c3).del c5) x=_
  by_cases e7:x=c7
  ·subst e7
   rw[aQ] at hz
   rw[bP n75,bP n73,aQ]
   exact hz
  rw[aP e7] at hz
  by_cases e6:x=c6
  ·subst e6
   rw[aQ] at hz
   rw[bP n65,bP n63,aP n76.symm,aQ]
   exact hz
  rw[aP e6] at hz
  have e3:x≠c3:=fun e=>by rw[e,mH] at hz;cases hz
  have e5:x≠c5:=fun e=>by rw[e,pT] at hz;cases hz
  rw[bP e5,bP e3,aP e7,aP e6,aP e5,aP e3]
  exact hz
 have wZ:H.le ((H.bH c6 (.row 24 0 1 [[.val (.slice none 0 0)]])).bH c7 (.row 4 0 1 [[.val (.bool false)]])):=bQ (bQ (aE _) JX) NR
 have e60:((H.bH c6 (.row 24 0 1 [[.val (.slice none 0 0)]])).bH c7 (.row 4 0 1 [[.val (.bool false)]])) c6=some (.row 24 0 1 [[.val (.slice none 0 0)]]):=(aP n76.symm).trans (aQ _ _ _)
 have e70:((H.bH c6 (.row 24 0 1 [[.val (.slice none 0 0)]])).bH c7 (.row 4 0 1 [[.val (.bool false)]])) c7=some (.row 4 0 1 [[.val (.bool false)]]):=aQ _ _ _
 obtain⟨H2,iW⟩:∃H2,H2=(H.bH c6 (.row 24 0 1 [[.val (.slice none 0 0)]])).bH c7 (.row 4 0 1 [[.val (.bool false)]]):=⟨_,rfl⟩
 rw[<-iW] at wZ e60 e70 ⊢
 clear iW
 simp only[St.gU,List.drop]
 refine tq trivial ?_;intro Nx aB Gx aG
 intro c8 NS
 refine aB _ ?_
 have n86:c8≠c6:=fun e=>by rw[e,e60] at NS;cases NS
 have n87:c8≠c7:=fun e=>by rw[e,e70] at NS;cases NS
 have aGm:H c8=none:=AA wZ NS
 refine tq trivial ?_;intro Nx aB Gx aG
 have Q2:=aCQ ts lc p (H2.bH c8 (.row 24 0 1 [[.val (.slice none 0 0)]]))
 simp only[kT] at Q2
 refine Q2.mono ?_
 rintro d _ ⟨rfl,rfl⟩
 refine tq trivial ?_;intro Nx aB Gx aG
 refine PN (fun s=>s.df=[]/\s.fr 3=.rp [.seq 5 (ts.map cE)]/\s.fr 5=.rp [i64 p.lo,.seq 2 (p.pr.map pD)]/\s.fr 6=.ep c6 0 1 0 0/\s.fr 7=.ep c7 0 1 0 0/\s.fr 8=.ep c8 0 1 0 0/\s.fr 14=.fn 406 [.rp (kT p),.rp [.seq 2 (lc.map lI)],.rp [.seq 5 (ts.map cE)]]/\H.le s.H/\RfI H.PF ts p.pr c6 c7 c8 [] s.H) ⟨rfl,rfl,rfl,rfl,rfl,rfl,rfl,bQ wZ aGm,fun x h=>by(cases h),tR (aCJ H) (bQ wZ aGm),(aP n86.symm).trans e60,(aP n87.symm).trans e70,_,none,aQ _ _ _,nJ _ _ _ _,by simp,by simp,by simp⟩ ?_
 rintro s ⟨bG,f3,f5,f6,f7,f8,f14,aX,hI0⟩
 refine pX rfl (W5 ts lc p hw hl ha hp) f14 (fun _ _=>trivial) (by simp) (fun _=>rfl) (RfI H.PF ts p.pr c6 c7 c8) (fun e _=>RfX H.PF c6 c7 (bU ts lc p).2 e) ?_ ?_ ?_ ?_ ?_ ?_
 ·rintro pre H1 H2 hr ⟨h0,h1,h6,h7,x,ob,h2,h3,h4⟩
  refine⟨h0,vO (BR H) h1 hr,hr _ _ h6 (by simp),hr _ _ h7 (by simp),x,ob,hr _ _ h2 (by simp),?_,h4⟩
  rcases h3 with h3|⟨c,o,g1,g2,g3,g4⟩
  ·exact .inl h3
  ·exact .inr ⟨c,o,g1,g2,g3,hr _ _ g4 (by simp)⟩
 ·rintro e pre H1 H2 hr ⟨h1,h2,h3,h4,h5⟩
  exact⟨h1,h2,vO (BR H) h3 hr,hr _ _ h4 (by simp),hr _ _ h5 (by simp)⟩
 ·exact hI0
 ·rintro l w1 pre x Hc o g9 oA ⟨g1,g2,g3,g4,xs,ob,g5,g6,k6,k7,k8⟩ rU s7
  rw[aHh,aHn]
  refine tq (gE fH fM eQ cB bG) ?_;intro Nx aB Gx aG
  intro c10 NP
  refine aB _ ?_
  simp only[fL]
  refine⟨rfl,mC.new (rV _) NP,fun w2 y g10=>?_⟩
  have l5:l≠c10:=fun e=>by rw[e,NP] at s7;cases s7
  have nl:∀c t o sz els,Hc c=some (.row t o sz els)->c≠l:=fun c t o sz els h e=>by rw[e,s7] at h;cases h
  have n6:=nl _ _ _ _ _ g3
  have n7:=nl _ _ _ _ _ g4
  have n8:=nl _ _ _ _ _ g5
  have hxm:x∈qT ts lc p:=oA.subset (by simp)
  refine bS 10 rfl (b:=c10) (by simp only[kN,fM,oN];rw[aP (Ne.symm l5),aQ]) rfl ?_
  simp only[St.gU,kN,fM,oN,gV,cB,l4,pK (Ne.symm l5),nV,oU NP,List.drop]
  have NW:=fun (x:gB) (hx:∀o,x≠ .obj o)=>y9 (H:=Hc) (b:=c10) (l:=l) (y:=y) hx
  have r6:(Hc.bH l (.obj y)) c6=_:=(aP n6).trans g3
  have r7:(Hc.bH l (.obj y)) c7=_:=(aP n7).trans g4
  have r8:(Hc.bH l (.obj y)) c8=_:=(aP n8).trans g5
  have r7':∀z,((Hc.bH l (.obj y)).bH c6 z) c7=_:=fun z=>(aP n76).trans r7
  by_cases h0:x.2.2=0
  case neg=>
   have q1:(x.2.2=0)=False:=aI h0
   refine tq (yP f6 f7 fH fM eQ cB q1 r6 r7') ?_;intro Nx aB Gx aG
   simp only[jN,jE,mD]
   refine⟨rfl,((NW _ (by simp)).row r6 (by simp)).row (r7' _) (by simp),rfl,SF hxm h0,bQ (bQ (vO (BR H) g2 (C6 s7)) (C0 JX)) (C0 NR),(aP n76.symm).trans (aQ _ _ _),aQ _ _ _⟩
  have q1:(x.2.2=0)=True:=aK h0
  have hx:(x.1:Int).toNat=x.1:=bL _
  have cL:(0:Int)<=(x.1:Int):=bY _
  have eW:∀z∈pre++[x],z.2.2=0:=fun z hz=>by
   rcases cS.1 hz with hz|hz
   ·exact g1 z hz
   ·rw[eS] at hz;subst hz;exact h0
  have jX:=aFI hw hl hxm h0
  have hg8:Gl H.PF 82 5 ((AQ ts p.pr pre).map cE) xs (Hc.bH l (.obj y)) ob:=g6.obj s7
  have xB:=Z7 ts p.pr pre x
  have QP:AQ ts p.pr (pre++[x])=AQ ts p.pr pre->mC (((Hc.bH c10 (.row 436 0 2 [[i64 x.2.1,i64 x.2.2]])).bH l (.obj y))) (Hc.bH l (.obj y))/\RfI H.PF ts p.pr c6 c7 c8 (pre++[x]) (Hc.bH l (.obj y)):=fun e=>⟨NW _ (by simp),eW,vO (BR H) g2 (C6 s7),r6,r7,xs,ob,r8,by rw[e];exact hg8,k6,k7,k8⟩
  by_cases hk:x.1<p.pr.length
  case neg=>
   have q2:((x.1:Int)<(p.pr.length:Int))=False:=aI (by omega)
   rw[aD (fun h=>hk h.1),kX] at xB
   have uT:=QP xB
   refine tq (qN f5 fH fM eQ cB q1 q2 hmp) ?_;intro Nx aB Gx aG
   exact⟨rfl,uT⟩
  have q2:((x.1:Int)<(p.pr.length:Int))=True:=aK (by omega)
  have hgx:=aCU hk
  by_cases yW:(p.pr.getD x.1 (1,0)).1=0
  case neg=>
   rw[aD (fun h=>yW h.2),kX] at xB
   have uT:=QP xB
   have q3:((p.pr.getD x.1 (1,0)).1=0)=False:=aI yW
   refine tq (P0 f5 fH fM eQ cB q1 q2 q3 hmp hgx hx cL hk) ?_;intro Nx aB Gx aG
   exact⟨rfl,uT⟩
  have q3:((p.pr.getD x.1 (1,0)).1=0)=True:=aK yW
  rw[aH ⟨hk,yW⟩] at xB
  have IP:pre.length<=33:=by
   have h1:=oA.length_le
   have h2:=aCi (ts:=ts) (lc:=lc) (p:=p)
   rw[bJ,nT] at h1
   omega
  have ZG:=aC0 ts p.pr pre
  have nY:=kC jX
  have yY:x.2.1.toNat<ts.length:=by unfold dG at jX;omega
  have B4:0<=x.2.1:=by unfold dG at jX;omega
  obtain⟨t,ht⟩:∃t,t=cJ ts x.2.1:=⟨_,rfl⟩
  rw[<-ht] at xB nY
  obtain⟨els,AM⟩:∃els,els=(AQ ts p.pr pre).map cE:=⟨_,rfl⟩
  have aGq:els.length<=33:=by rw[AM,bK];omega
  have aEC:(AQ ts p.pr (pre++[x])).map cE=els++[cE t]:=by rw[xB,fI,AM];rfl
  rw[<-AM] at hg8
  clear AM
  simp only[cE] at nY aEC
  refine tq (P0 f5 fH fM eQ cB q1 q2 q3 hmp hgx hx cL hk) ?_;intro Nx aB Gx aG
  refine wE (fun _=>false) (fun _=>false) (fun _ _ _ _=>False) (fun _ _ _ _ _=>False) fun Nx aB=>?_;have fs:=And.intro f3 (And.intro f8 (And.intro fH (And.intro fM (And.intro eQ (And.intro cB (And.intro r8 (And.intro nY (And.intro iX (And.intro yY B4)))))))));refine VV ?_;(first|refine aG _ ?_|refine aB _ ?_|skip);(try clear fs)
  refine cY (e:=82) aCo rfl aCo rfl aIE rfl (by decide) (vO (BR H) g2 (C6 s7)) hg8 (new:=[cE t]) (by exact⟨rfl,rfl⟩) (by show(_+1) * 56<=_;omega) fun d H6 qL kK eJ uD=>?_
  have p6:=uD _ _ r6 k6
  have p7:=uD _ _ r7 k7
  have p8:=uD _ _ r8 k8
  have p81:=p8.1
  have hd6:∃c o n,d=.os c o 5 0 n:=by
   rcases kK with⟨_,_,h⟩|⟨c,o,_,h,_⟩
   ·simp at h
   ·exact⟨c,o,_,h⟩
  obtain⟨c',o',n',rfl⟩:=hd6
  (have fs:=p81;refine yR ?_;try clear fs);(first|refine aG _ ?_|refine aB _ ?_|skip)
  exact⟨rfl,(LR (NW _ (by simp)) hg8 uD).row p81 (by simp),eW,bQ eJ (C0 aGm),(aP n86.symm).trans p6.1,(aP n87.symm).trans p7.1,_,qL,aQ _ _ _,by rw[aEC];exact kK.jY fun c h=>aP fun e=>p8.2 (by rw[h,e]),p6.2,p7.2,p8.2⟩
 ·rintro Hc M ⟨g1,g2,g3,g4,xs,ob,g5,g6,k6,k7,k8⟩ rU hD QE
  rw[D3,fK,fL,bG]
  have hM6:c6≠M:=fun e=>by rw[e,hD] at g3;cases g3
  have hM7:c7≠M:=fun e=>by rw[e,hD] at g4;cases g4
  have hM8:c8≠M:=fun e=>by rw[e,hD] at g5;cases g5
  have g2:=I1 g2 aX rU
  have g6:=aGb g6 g2
  have uS:=g6.cells
  simp only[D.cells] at uS
  have g4':∀z,(Hc.bH c6 z) c7=_:=fun z=>(aP n76).trans g4
  refine tq (lM f6 f7 f8 g3 g4' g5 uS) ?_;intro Nx aB Gx aG
  have eX:(bU ts lc p).2=0:=by
   obtain⟨j,hj⟩:=L7 ts lc p
   exact g1 _ (List.mem_of_getLast? hj)
  have hre:AQ ts p.pr (qT ts lc p)=nZ ts lc p:=by
   rw[aCZ eX];unfold nZ;rw[aD (fun h=>h eX)]
  rw[hre] at g6
  refine aC _ _ (.inr rfl) ?_ ?_
  ·(have fs:=f6;refine evG ?_;clear fs)
   refine mk1 ?_
   rw[aP hM7.symm,aP hM6.symm];exact hD
  ·(have fs:=f6;refine evG ?_;clear fs)
   rw[LS]
   have hMo:∀c,ob=some c->c≠M:=fun c h e=>by
    rcases g6 with⟨g,_⟩|⟨c2,o2,h1,_,_,h4⟩
    ·rw[g] at h;cases h
    ·rw[h] at h1;injection h1 with h1;rw[<-h1,e,hD] at h4;cases h4
   have kL:H.le (((Hc.bH c6 (.row 24 0 1 [[xs]])).bH c7 (.row 4 0 1 [[.val (.bool true)]])).bH M .hid):=bQ (bQ (bQ g2 JX) NR) (AA aX QE)
   simp (maxSteps:=4000000) only[vX,vB,vT,vZ,nF,kA,ZV,LL,OB,lW,iR,lY,↓oL,TP,dM,TL,MM,SS,xE,wU,AF,AG,rA,oZ,qZ,m8,D.nilPtr,D.mK,D.mR,jH,SN,SU,GN,kU,qC,gY,lR,P6,Q9,RA,RE,BQ,PH,D.cells,qD,TJ,TE,AI,gJ,gG,PR,O7,pC,UK,AH,SB,jZ,TD.lZ,TD.agg,VI,CG,wW,YE,uZ,x7,x6,RK,P5,tH,BW,iV,nK,Value.oneCell',oR,oP,ne_eq,reduceCtorEq,sV,oT,fU,fE,↓reduceIte,Nat.reduceEqDiff,Int.reduceLE,Int.reduceLT,Int.reduceNeg,Int.reduceToNat,Nat.reduceAdd,Nat.reduceMul,Nat.reduceLeDiff,Nat.reduceMod,Nat.reduceSub,Int.reduceEq,Int.reduceNe,Int.reduceAdd,Int.reduceSub,Int.reduceMul,oQ,fH,fM,eQ,cB,fL,mD,fK,jE,iC,jN,jJ,jK,jI,i64,f6,f7,aP hM6,aP hM7,aP n76.symm]
   exact⟨_,aE _,kL,_,pS (TT (sF kL (g6.jY fun c h=>by
    rw[aP (hMo c h),aP (fun e=>k7 (by rw[h,e])),aP (fun e=>k6 (by rw[h,e]))])) (aJ kL)),by rw[bF eX]⟩
 ·rintro e c pre Hc M hj ⟨rfl,h2,h3,h4,h5⟩ rU hD QE
  rw[D3,bG]
  have hD6:c6≠M:=fun e=>by rw[e,hD] at h4;cases h4
  have hD7:c7≠M:=fun e=>by rw[e,hD] at h5;cases h5
  (have fs:=f6;refine evG ?_;clear fs)
  refine aC _ _ (.inr rfl) ?_ ?_
  ·(have fs:=f6;refine evG ?_;clear fs)
   exact mk1 hD
  ·rw[eQ,LS]
   have h3:=I1 h3 aX rU
   have kL:H.le (Hc.bH M .hid):=bQ h3 (AA aX QE)
   have hre:nZ ts lc p=[]:=aH h2
   simp (maxSteps:=4000000) only[vX,vB,vT,vZ,nF,kA,ZV,LL,OB,lW,iR,lY,↓oL,TP,dM,TL,MM,SS,xE,wU,AF,AG,rA,oZ,qZ,m8,D.nilPtr,D.mK,D.mR,jH,SN,SU,GN,kU,qC,gY,lR,P6,Q9,RA,RE,BQ,PH,D.cells,qD,TJ,TE,AI,gJ,gG,PR,O7,pC,UK,AH,SB,jZ,TD.lZ,TD.agg,VI,CG,wW,YE,uZ,x7,x6,RK,P5,tH,BW,iV,nK,Value.oneCell',oR,oP,ne_eq,reduceCtorEq,sV,oT,fU,fE,↓reduceIte,Nat.reduceEqDiff,Int.reduceLE,Int.reduceLT,Int.reduceNeg,Int.reduceToNat,Nat.reduceAdd,Nat.reduceMul,Nat.reduceLeDiff,Nat.reduceMod,Nat.reduceSub,Int.reduceEq,Int.reduceNe,Int.reduceAdd,Int.reduceSub,Int.reduceMul,oQ,fH,fM,eQ,cB,fL,mD,fK,jE,iC,jN,jJ,jK,jI,i64,f6,f7,aP hD6,aP hD7,h4,h5,i64]
   exact⟨_,aE _,kL,_,pS (TT yT (aJ kL)),by rw[hre,bC h2] <;> rfl⟩
theorem I8 (ts:List cQ):∀(l:List (Int×Int)) (i:Int),(vR ts i l).length<=l.length
 |[],_=>by simp [vR]
 |x::l,i=>by
  have:=I8 ts l (iH ts i x).1
  simp only[vR,bJ,fN]
  split <;> simp <;> omega
theorem rX (ts:List cQ) (lc:List tD) (p:pO):(nZ ts lc p).length<=32:=by
 unfold nZ
 by_cases h:(bU ts lc p).2=0
 ·rw[aD (fun h'=>h' h)]
  obtain⟨h1,_,_⟩:=rY h
  have h2:=(pP h1).2.1
  have:=I8 ts p.pr (sO lc p.lo).ty
  omega
 ·rw[aH h];simp
theorem aDL (l:List cQ):(!l.any fun x=> !x.m)=l.all (·.m):=by
 induction l with
 |nil=>rfl
 |cons x l ih=>rw[List.any_cons,l8,<-ih];cases x.m <;> simp
theorem aFg (ts:List cQ) (lc:List tD) (p:pO) (H:aA) (hw:vY ts) (hl:S7 ts lc) (ha:XW ts) (hp:fC p.pr.length):aT prog 250 [.seq 5 (ts.map cE),.seq 2 (lc.map lI),.agg (kT p)] H fun d H'=>d=.val (.bool (sP ts lc p))/\H=H':=by
 refine bM (K:=fun d=>d=.val (.bool (sP ts lc p))) ?_
 have aR:=aE H
 have ZG:=rX ts lc p
 have aGo:=aD3 (nZ ts lc p) 331 (fun x=> !x.m) H (by unfold fC;omega) (fun x _ H1=>aJ3 x H1)
 have hq:=aCY ts lc p H hw hl ha hp
 simp only[kT] at hq
 refine aN _ _ func250 rfl rfl ntmps250 results250 (by simp) fun w0 g0 Q aC=>?_
 refine tq @kT.eq_1 ?_;intro Nx aB Gx aG
 intro c5 pT
 refine aB _ ?_
 refine fW 5 pT ?_
 refine tq trivial ?_;intro Nx aB Gx aG
 refine hq.mono ?_
 rintro d _ ⟨rfl,rfl⟩
 by_cases h0:(bU ts lc p).2=0
 ·rw[bF h0]
  have eE:sP ts lc p=(!(nZ ts lc p).any fun x=> !x.m):=by unfold sP;rw[bF h0,cT,aDL]
  refine tq trivial ?_;intro Nx aB Gx aG
  refine aGo.mono ?_
  rintro d _ ⟨rfl,rfl⟩
  refine tq trivial ?_;intro Nx aB Gx aG
  refine rt aC trivial ?_
  exact⟨_,aE _,aR,_,aJ aR,by rw[eE]⟩
 ·rw[bC h0]
  have eE:sP ts lc p=false:=by unfold sP;rw[bC h0,fS]
  refine tq trivial ?_;intro Nx aB Gx aG
  refine rt aC trivial ?_
  exact⟨_,aE _,aR,_,aJ aR,by rw[eE]⟩
theorem aHl (ts:List cQ) (lc:List tD) (p:pO) (H:aA) (hw:vY ts) (hl:S7 ts lc) (ha:XW ts) (hp:fC p.pr.length):aT prog 332 [.seq 5 (ts.map cE),.seq 2 (lc.map lI),.agg (kT p)] H fun d H'=>d=.seq 1 ((EO ts lc p).map iD)/\H=H':=by
 refine bM (K:=fun d=>d=.seq 1 ((EO ts lc p).map iD)) ?_
 have ZG:=rX ts lc p
 have hq:=aCY ts lc p H hw hl ha hp
 simp only[kT] at hq
 obtain⟨l,hL⟩:∃l,l=nZ ts lc p:=⟨_,rfl⟩
 have eE:EO ts lc p=l.map (·.r):=by rw[hL];rfl
 rw[<-hL] at ZG hq
 rw[eE]
 clear hL eE
 have cI:=lm cE l
 refine aN _ _ func332 rfl rfl ntmps332 results332 (by simp) fun w0 g0 Q aC=>?_
 refine tq @kT.eq_1 ?_;intro Nx aB Gx aG
 intro c5 pT
 refine aB _ ?_
 refine fW 5 pT ?_
 refine tq trivial ?_;intro Nx aB Gx aG
 refine hq.mono ?_
 rintro d _ ⟨rfl,rfl⟩
 refine tq cI ?_;intro Nx aB Gx aG
 refine bB l.length (fun i s=>s.df=[]/\s.fr 19=.seq 5 (l.map cE)/\s.fr 20=i64 l.length/\s.fr 21=i64 i/\H.le s.H/\∃ob,Gl H 3 1 (((l.take i).map (·.r)).map iD) (s.fr 7) s.H ob) ⟨rfl,rfl,rfl,rfl,aE _,none,nJ _ _ _ _⟩ ?_
 rintro i s hi ⟨bG,f19,f20,f21,aR,ob,hg⟩
 have hx:=bL i
 have cL:=bY i
 by_cases aZ:i<l.length
 case neg=>
  have q6:=lF i l.length (by omega)
  rw[dQ (by omega)] at hg
  refine tq (dZ f20 f21 q6) ?_;intro Nx aB Gx aG
  refine rt aC bG ?_
  exact⟨_,aE _,aR,_,sF aR hg,rfl⟩
 have q6:=lT i l.length (by omega)
 have w3:=wS i (by omega)
 have b8:(l.map cE)[i]?=some (cE l[i]):=by rw[cR,cP aZ];rfl
 have xB:((l.take (i+1)).map (·.r)).map iD=((l.take i).map (·.r)).map iD++[iD l[i].r]:=by rw[dH aZ];simp only[fI,fT,pM]
 obtain⟨u,hu⟩:∃u,u=l[i]:=⟨_,rfl⟩
 rw[<-hu] at b8 xB
 simp only[cE] at b8
 refine tq (yP f19 f20 f21 cI q6 b8 hx cL aZ) ?_;intro Nx aB Gx aG
 intro c11 aB3
 refine aB _ ?_
 refine fW 11 aB3 ?_
 refine tq trivial ?_;intro Nx aB Gx aG
 refine cY (e:=3) sS rfl sS rfl ty3 rfl (by decide) aR hg (new:=[iD u.r]) (by exact⟨rfl,rfl⟩) (by rw[bK,bK,dJ];show(_+1) * 8<=_;omega) fun d H6 qL kK eJ uD=>?_
 rw[<-xB] at kK
 refine tq (cZ f21 w3) ?_;intro Nx aB Gx aG
 exact⟨aZ,bG,f19,f20,rfl,eJ,qL,kK⟩
end Go.Proofs.YtelbfbioomcmeaaGreatDoor

