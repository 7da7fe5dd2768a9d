/- Lemmas and contracts of functions, several texts in one. -/
import Derived.Test.YtelbfbioomcmeaaGreatDoorQ37
set_option maxRecDepth 100000
set_option maxHeartbeats 4000000
set_option linter.all false
namespace Go.Proofs.YtelbfbioomcmeaaGreatDoor
open Go.RowKit
def YJ {α:Type} (J:List α->aA->Prop) (pre:List α) (b:Nat) (y:gB) (H:aA):Prop:=∃Hc,H=Hc.bH b y/\(∀z,Hc b=some z->∃o,z=.obj o)/\J pre Hc
theorem cH.hold {cx:Cx} {s:St} {a:Act} {w:World} (m:cH cx s a w) {b:Nat} {t:TypeId} {o sz:Nat} {els:List (List D)} (hb:s.H b=some (.row t o sz els)):∃ob,w.heap[b]?=some ob/\Ev s.H w (s.H.bH b (.obj ob)) w/\cH cx (s.dW (s.H.bH b (.obj ob))) a w:=by
 obtain⟨cs,fr,h1,_⟩:=m.H b _ hb
 have iP:Ev s.H w (s.H.bH b (.obj (.cells cs t fr))) w:=mV (by rw[hb];simp) rfl rfl rfl rfl (fun _ _=>rfl) fun sZ t' TR h=>⟨sZ,TR,h,rfl⟩
 exact⟨_,h1,iP,m.go iP (kS m.H iP (fun _ _=>rfl) h1)⟩
theorem XR {α:Type} {cx:Cx} {o:Oper} {K:St->Prop} {s:St} {c:Call} {f:Operand} {l:Nat} {J Jx:List α->aA->Prop} {mN:α->List D} {Pf:List α->Prop} (pre:List α) (x:α) {b:Nat} {t:TypeId} {ro sz:Nat} {els:List (List D)}
  (tA:o.op=.call c) (QM:c.callee=.value f) (hf:s.ev f=yD l) (hd:BS cx.n o.dst) (hY:YCG cx.P l cx.H0 cx.w0 J Jx mN Pf) (hC:MD cx.H0 J) (hb:cx.H0 b=none) (hx:Pf (pre++[x])) (hJ:YJ J pre b (.row t ro sz els) s.H) (ha:s.xT c.args=mN x)
  (ht:∀H',YJ J (pre++[x]) b (.row t ro sz els) H'->K ((s.dW H').put o.dst (.val (.bool true)))) (hn:∀H',YJ Jx (pre++[x]) b (.row t ro sz els) H'->K ((s.dW H').put o.dst (.val (.bool false)))):WO cx o K s:=fun a w m=>by
 refine⟨kI,?_⟩
 rw[ER (by simp [tA])]
 obtain⟨Hc,hH,hz,hj⟩:=hJ
 have hsb:s.H b=some (.row t ro sz els):=by rw[hH,aQ]
 obtain⟨ob,rU,QR,m0⟩:=m.hold hsb
 have hH0:s.H.bH b (.obj ob)=Hc.bH b (.obj ob):=by rw[hH,DS]
 have hj0:J pre (s.H.bH b (.obj ob)):=by rw[hH0];exact hC _ _ _ _ hb hz hj
 have hfv:=m.uA f
 rw[hf] at hfv
 simp only[yD,D.is] at hfv
 have AV:=m0.P4 c.args
 have ha0:(s.dW (s.H.bH b (.obj ob))).xT c.args=mN x:=ha
 rw[ha0] at AV
 obtain⟨fn,tmps,assign,body,hy,hR⟩:=hY pre x _ w _ hx hj0 m0.H m0.ev AV
 have uW:(execOp a.eval o).run cx.P w=.ok (.round l fn tmps assign body) w:=by
  simp only[execOp,tA,resolve,QM,hfv,Deferred.ofValue,Sem.run_bind,Sem.run_pure,Result.andThen,invoke]
  have e:(c.args.map a.eval).toList.toArray=c.args.map a.eval:=Array.toArray_toList
  rw[e] at hy
  simpa using hy
 rw[uW,Oper.uponIn_round]
 refine⟨fun hd0=>(by cases hd0),?_⟩
 have hR2:RoundIn (FR cx.ro) 8 cx.P l fn tmps assign body w _:=hR
 have aJj:∀(H':aA) (w':World),fQ w' H'->Ev (s.H.bH b (.obj ob)) w H' w'->H' b=some (.obj ob)->cH cx (s.dW (H'.bH b (.row t ro sz els))) a w':=fun H' w' h1 h2 h3=>by
  have h4:w'.heap[b]?=some ob:=h1 b _ h3
  have aDt:Ev H' w' (H'.bH b (.row t ro sz els)) w':=mV (by rw[h3];simp) rfl rfl rfl rfl (fun _ _=>rfl) fun sZ t' TR h=>⟨sZ,TR,h,rfl⟩
  have BL:Ev s.H w (H'.bH b (.row t ro sz els)) w':=(QR.trans h2).trans aDt
  exact m.go BL (kS h1 aDt (fun _ _=>rfl) (BL.rC (h4.trans rU.symm) (m.H b _ hsb)))
 refine hR2.mono fun e w' ⟨H',h1,h2,h5,h3⟩=>?_
 have h6:H' b=some (.obj ob):=h5 b ob hb (aQ _ _ _)
 rcases h3 with⟨rfl,h3⟩|⟨rfl,h3⟩
 ·exact⟨_,(aJj H' w' h1 h2 h6).put (hU hd) (by simp only[D.is]),ht _ ⟨H',rfl,fun z h=>⟨ob,by rw[h6] at h;injection h with h;exact h.symm⟩,h3⟩⟩
 ·exact⟨_,(aJj H' w' h1 h2 h6).put (hU hd) (by simp only[D.is]),hn _ ⟨H',rfl,fun z h=>⟨ob,by rw[h6] at h;injection h with h;exact h.symm⟩,h3⟩⟩
def aIV {α:Type} (J Jx:List α->aA->Prop) (xs:List α) (H0 H:aA):Prop:=
 (J xs H\/∃pre,Jx pre H)\/∃b t o sz els,H0 b=none/\(YJ J xs b (.row t o sz els) H\/∃pre,YJ Jx pre b (.row t o sz els) H)
theorem aBr {α:Type} {P:Program} {f:FuncId} {fn:Func} {c:Code} {dO:List D} {mN:α->List D} {xs:List α} {ok:aA->Prop} (N:Nat) (hf:P.funcs[f]?=some fn) (uV:(fn.name== "runtime.NumGoroutine")=false) (hb:fn.body=some c) (hN:fn.ntmps=N) (J1:fn.results= #[]) (hl:dO.length+1<=N)
  (h:∀(l:Nat) (J Jx:List α->aA->Prop) (H:aA) (w0:World) (g0:E3 w0 H) (Q:Exit->St->Prop),ok H->J [] H->MD H J->MD H Jx->YC P l H w0 J Jx mN xs->(∀e s,e=.normal\/e=.ret->s.df=[]->aIV J Jx xs H s.H->Q e s)->W ⟨P,none,N,H,w0,g0⟩ c Q (St.init (yD l::dO) H)):TA P f dO mN xs ok:=And.intro (tZ hf uV hb) fun l J Jx H w vs eX hH hG hJ hC hCx _ hY sN=>by
 have aH4:Calls P f vs.toArray w fun e w'=>∃v d H',e=.returned v/\D.is w' H'.others d v/\fQ w' H'/\Ev H w H' w'/\(J xs H'\/∃pre,Jx pre H'):=by
  refine tG (ro:=none) (n:=9) (callsIn_of_wp hf hb trivial ?_ rfl)
  have eB:=jO sN
  obtain⟨ds,hds⟩:∃ds,ds=yD l::dO:=⟨_,rfl⟩
  have hl':ds.length<=N:=by rw[hds];exact hl
  have m:cH ⟨P,none,N,H,w,hG⟩ (St.init (yD l::dO) H) {tmps:=vs.toArray++Array.replicate (fn.ntmps - vs.toArray.size) undef,defers:=[]} w:=by
   rw[<-hds] at eB sN ⊢
   refine⟨by simp;omega,rfl,fun t=>?_,hH,gC _ _⟩
   simp only[St.init]
   rcases jW t ds.length with gL|EC
   ·obtain⟨v,h1,h2⟩:=l3 sN t ds[t] (by simp [gL])
    have e1:ds.getD t (.val undef)=ds[t]:=by simp [List.getD,gL]
    have e2:(vs.toArray++Array.replicate (fn.ntmps - vs.toArray.size) undef).getD t undef=v:=by
     rw[uE,DF (by simp;omega)]
     simp [h1]
    rw[e1,e2];exact h2
   ·have e1:ds.getD t (.val undef)=.val undef:=by simp [List.getD,EC]
    rw[e1]
    simp only[D.is]
    rw[uE,DE (by simp;omega),G8]
    split <;> rfl
  refine wpIn_mono (h l J Jx H w hG (fun e s=>(e=.normal\/e=.ret)/\s.df=[]/\aIV J Jx xs H s.H) eX hJ hC hCx hY (fun e s he bG hr=>⟨he,bG,hr⟩) _ _ m) fun e a' w' ⟨s',m',he,bG,q⟩=>?_
  have fin:∃s2:St,s2.df=[]/\cH ⟨P,none,N,H,w,hG⟩ s2 a' w'/\(J xs s2.H\/∃pre,Jx pre s2.H):=by
   rcases q with q|⟨b,t,o,sz,els,uR,q⟩
   ·exact⟨s',bG,m',q⟩
   ·rcases q with⟨Hc,s6,hz,hj⟩|⟨pre,Hc,s6,hz,hj⟩
    ·obtain⟨ob,_,_,m2⟩:=m'.hold (b:=b) (by rw[s6,aQ])
     refine⟨s'.dW (s'.H.bH b (.obj ob)),bG,m2,.inl ?_⟩
     show J xs (s'.H.bH b (.obj ob))
     rw[s6,DS]
     exact hC _ _ _ _ uR hz hj
    ·obtain⟨ob,_,_,m2⟩:=m'.hold (b:=b) (by rw[s6,aQ])
     refine⟨s'.dW (s'.H.bH b (.obj ob)),bG,m2,.inr ⟨pre,?_⟩⟩
     show Jx pre (s'.H.bH b (.obj ob))
     rw[s6,DS]
     exact hCx _ _ _ _ uR hz hj
  obtain⟨s2,mY,m2,JZ⟩:=fin
  have q2:aBE ⟨P,none,N,H,w,hG⟩ fn (fun _ H'=>J xs H'\/∃pre,Jx pre H') .ret s2:=CJ (.inr rfl) mY (by rw[J1];exact⟨s2.H,aE _,JZ⟩)
  have key:a'.defers=[]/\∃v,(results fn a'.tmps).run P w'=.ok v w'/\∃v' d H',Ending.returned v=.returned v'/\D.is w' H'.others d v'/\fQ w' H'/\Ev H w H' w'/\(J xs H'\/∃pre,Jx pre H'):=by
   obtain⟨bG,eE⟩:=q2
   obtain⟨v,d,H',h1,h2,h3,h4⟩:=eE a' w' m2
   have m3:=m2.less h3
   exact⟨m2.df.trans bG,v,h1,v,d,H',rfl,h2,m3.H,m3.ev,h4⟩
  rcases he with rfl|rfl
  ·obtain⟨h1,v,h2,h3⟩:=key
   exact⟨h1,v,h2,h3⟩
  ·obtain⟨h1,v,h2,h3⟩:=key
   exact⟨h1,v,h2,h3⟩
 refine aH4.mono ?_
 rintro e w' ⟨v,d,H',h1,_,h3,h4,h5⟩
 exact⟨v,H',h1,h3,h4,h5.imp (fun h=>⟨_,rfl,h⟩) id⟩
def aA.PF (H:aA):aA:=fun b=>match H b with
 |some (.obj _)=>Option.none
 |x=>x
theorem BR (H:aA):∀b o,H.PF b≠some (.obj o):=fun b o h=>by
 unfold aA.PF at h
 split at h
 ·cases h
 ·rename_i hx;exact hx o h
theorem aCJ (H:aA):H.PF.le H:=fun b x h=>by
 unfold aA.PF at h
 split at h
 ·cases h
 ·exact h
theorem sQ {H:aA} {b:Nat} {x:gB} (h:H b=some x) (hx:∀o,x≠ .obj o):H.PF b=some x:=by
 unfold aA.PF
 split
 ·rename_i o e
  rw[h] at e
  injection e with e
  exact absurd e (hx o)
 ·exact h
theorem C0 {H:aA} {b:Nat} (h:H b=Option.none):H.PF b=Option.none:=by
 unfold aA.PF;rw[h]
theorem I1 {H H1 Hc:aA} (h1:H.PF.le Hc) (h2:H.le H1) (h3:mC H1 Hc):H.le Hc:=fun b x hb=>by
 cases x with
 |obj o=>exact h3 b o (h2 b _ hb)
 |row t o sz els=>exact h1 b _ (sQ hb (by simp))
 |map m=>exact h1 b _ (sQ hb (by simp))
 |hid=>exact h1 b _ (sQ hb (by simp))
theorem aGb {H:aA} {e:TypeId} {sz:Nat} {els:List (List D)} {d:D} {Hc:aA} {ob:Option Nat} (h:Gl H.PF e sz els d Hc ob) (aR:H.le Hc):Gl H e sz els d Hc ob:=by
 rcases h with h|⟨c,o,h1,h2,h3,h4⟩
 ·exact .inl h
 ·refine .inr ⟨c,o,h1,h2,?_,h4⟩
  cases hx:H c with
  |none=>rfl
  |some x=>
   cases x with
   |obj o=>have:=aR _ _ hx;rw[h4] at this;cases this
   |row t o sz els=>rw[sQ hx (by simp)] at h3;cases h3
   |map m=>rw[sQ hx (by simp)] at h3;cases h3
   |hid=>rw[sQ hx (by simp)] at h3;cases h3
theorem vO {H0 H H':aA} (FI:∀b o,H0 b≠some (.obj o)) (h:H0.le H) (hr:rle H H'):H0.le H':=fun b x hb=>hr b x (h b x hb) (fun o e=>FI b o (by rw[hb,e]))
open Tryz
theorem aEV (ds:List (List UInt8)):(lD ds).take 4=[77,73,82,84]/\(lD ds).length=5+(oW 0 ds).length/\(lD ds)[4]?=some 1:=by
 unfold lD mag
 exact⟨rfl,by rw[bJ];rfl,rfl⟩
theorem X3 (l:List UInt8) (n:Nat):(e8 l).extract 0 n=e8 (l.take n):=by
 apply ByteArray.ext
 rw[G9]
 apply kY
 simp [e8]
theorem aJ9 (l:List UInt8) (H:aA) (hl:l.length<=1000000000) (h:l.take 4=[77,73,82,84]):aT prog 110 [.val (.string (e8 l)),.val (.string (e8 [77,73,82,84]))] H fun d H'=>d=.val (.bool true)/\H=H':=by
 have hs:=jF l
 have h4:4<=l.length:=by
  have:=cV List.length h
  rw[dJ] at this
  simp at this
  omega
 have ZH:(e8 [77,73,82,84]).size=4:=rfl
 have q:((4:Int)<=(l.length:Int))=True:=aK (by omega)
 have h2:∀H1,aT prog 200 [.val (.string (e8 l)),.val (.string (e8 [77,73,82,84]))] H1 fun d H'=>d=.val (.bool true)/\H1=H':=fun H1=>by
  have e1:=X3 l 4
  rw[h] at e1
  have e2:decide ((e8 [77,73,82,84])=e8 [77,73,82,84])=true:=bF rfl
  refine aN _ _ func200 rfl rfl ntmps200 results200 (by simp) fun w0 g0 Q aC=>?_
  refine tq (gE hs ZH q e1 e2) ?_;intro Nx aB Gx aG
  refine rt aC trivial ?_
  exact⟨_,aE _,rfl⟩
 refine aN _ _ func110 rfl rfl ntmps110 results110 (by simp) fun w0 g0 Q aC=>?_
 refine tq trivial ?_;intro Nx aB Gx aG
 refine(h2 _).mono ?_
 rintro d _ ⟨rfl,rfl⟩
 refine tq trivial ?_;intro Nx aB Gx aG
 refine rt aC trivial ?_
 exact⟨_,aE _,rfl⟩
theorem Y2 (b:List UInt8) (H:aA):aT prog 48 [.seq 1 (b.map bD)] H fun d H'=>d=.fn 109 [.rp [.seq 1 (b.map bD)]]/\H=H':=by
 refine aN _ _ func48 rfl rfl ntmps48 results48 (by simp) fun w0 g0 Q aC=>?_
 refine tq trivial ?_;intro Nx aB Gx aG
 intro b1 sI
 refine aB _ ?_
 refine fW 1 sI ?_
 refine tq trivial ?_;intro Nx aB Gx aG
 refine rt aC trivial ?_
 exact⟨_,aE _,rfl⟩
theorem Z5 {i n:Nat} (h:i<n):List.range i++[i]<+:List.range n:=by
 rw[<-List.range_succ,show List.range (i+1)=(List.range n).take (i+1) by rw[List.take_range,uI (by omega)]]
 exact List.take_prefix _ _
theorem aCX {ys:List Nat} {x n:Nat} (h:(ys++[x])<+:List.range n):ys=List.range ys.length/\x=ys.length/\ys.length<n:=by
 have hl:=h.length_le
 rw[bJ,List.length_range,nT] at hl
 have e:=List.prefix_iff_eq_take.1 h
 rw[List.take_range,uI (by rw[bJ];exact hl),bJ,nT,List.range_succ] at e
 obtain⟨e1,e2⟩:=List.append_inj' e rfl
 exact⟨e1,by simpa using e2,by omega⟩
theorem TS (ds:List (List UInt8)) (hn:ds.length<=127) (hl:(lD ds).length<=1000000000):TA prog 109 [.rp [.seq 1 ((lD ds).map bD)]] (fun i=>[.agg (aBP ds i)]) (List.range ds.length) fun _=>True:=by
 obtain⟨m1,m2,m3⟩:=aEV ds
 have hp0:BV ds 0=5:=by simp [BV,oW]
 have hpe:=aCT ds
 have hpo:=fun i=>fun h:i<ds.length=>OX h
 have Q5:=fun i=>fun h:i<ds.length=>Z3 h
 have hnx:=fun i H=>fun h:i<ds.length=>aH6 ds i H h hn hl
 generalize hE:lD ds=bs at *
 have cI:=lm bD bs
 have q1:((bs.length:Int)=4)=False:=aI (by omega)
 have hg:(bs.map bD)[4]?=some [.val (.int .u8 1)]:=by rw[cR,m3];rfl
 have q4:(4:Int)<(bs.length:Int):=by omega
 have q5:4<bs.length:=by omega
 have hby:=E5 bs
 clear hE
 refine N3 _ func109 rfl rfl ntmps109 results109 (by simp) fun l J Jx H w0 g0 Q eX hJ hY aC=>?_
 refine tq hby ?_;intro Nx aB Gx aG
 refine(aJ9 bs _ hl m1).mono ?_
 rintro d _ ⟨rfl,rfl⟩
 refine tq (gE cI q1 hg q4 q5) ?_;intro Nx aB Gx aG
 refine bB ds.length (fun i s=>s.df=[]/\s.fr 0=yD l/\s.fr 1=.rp [.seq 1 (bs.map bD)]/\s.fr 3=i64 i/\s.fr 4=i64 (BV ds i)/\J (List.range i) s.H) ⟨rfl,rfl,rfl,rfl,by rw[hp0];rfl,hJ⟩ ?_
 rintro i s hi ⟨bG,f0,f1,f3,f4,hj⟩
 by_cases aZ:i<ds.length
 case neg=>
  have hie:i=ds.length:=by omega
  subst hie
  rw[hpe] at f4
  have q6:((bs.length:Int)<(bs.length:Int))=False:=aI (by omega)
  refine tq (fJ f1 f4 cI q6) ?_;intro Nx aB Gx aG
  exact aC _ _ (.inl rfl) bG (.inl hj)
 obtain⟨ht,hf⟩:=hpo i aZ
 have Q5:=Q5 i aZ
 have q6:((BV ds i:Int)<(bs.length:Int))=True:=aK (by have:QB ds i<=S6 ds i:=Nat.le_add_right _ _;omega)
 have w3:IntKind.i64.wrap ((S6 ds i:Int)+4)=(BV ds (i+1):Int):=by rw[aY (by omega),Q5];omega
 refine tq (gE f1 f3 f4 cI q6) ?_;intro Nx aB Gx aG
 refine(hnx i _ aZ).mono ?_
 rintro d _ ⟨rfl,rfl⟩
 unfold aBP
 refine tq trivial ?_;intro Nx aB Gx aG
 intro b5 O8
 refine aB _ ?_
 refine fW 5 O8 ?_
 (have fs:=f0;(iterate 2 (first|refine aG _ ?_|refine aB _ ?_|refine cX ?_|refine cW ?_|refine eH ?_|refine cF ?_|refine cG ?_|refine cC ?_|refine bO ?_|((first|refine tS fun Nx aB=>?_|refine mE rfl rfl (by kernel_rfl) (by kernel_rfl) fun Gx aG=>?_|refine cD (by kernel_rfl) ?_|refine lJ fun A B vJ vK=>?_);refine yR ?_;(first|refine aG _ ?_|refine aB _ ?_|refine vJ ?_|refine vK ?_|skip))));(try clear fs))
 (have fs:=f0;refine VD (2) (by kernel_rfl) ?_;refine CL ?_;(try clear fs))
 refine tF rfl (pW (List.range i) i rfl rfl rfl (by simp [BS]) hY (Z5 aZ) hj rfl (fun H' JZ=>?_) fun H' JZ=>?_)
 ·rw[<-List.range_succ] at JZ
  refine tq f0 ?_;intro Nx aB Gx aG
  refine dE (fun _ _ _ _=>False) fun Nx aB=>?_;refine dst w3 ?_;intro Nx aB Gx aG
  exact⟨aZ,bG,f0,f1,rfl,rfl,JZ⟩
 ·refine tq f0 ?_;intro Nx aB Gx aG
  exact aC _ _ (.inr rfl) bG (.inr ⟨_,JZ⟩)
def RdT (H0:aA) (ds:List (List UInt8)) (b2 b3 b4:Nat) (pre:List Nat) (H:aA):Prop:=
 pre.length<=ds.length/\H0.PF.le H/\H b2=some (.row 51 0 1 [[.val (.slice none 0 0)]])/\H b3=some (.row 48 0 1 [[i64 0]])/\∃x ob,H b4=some (.row 51 0 1 [[x]])/\Gl H0.PF 58 2 ((C8 ds).take pre.length) x H ob/\ob≠some b2/\ob≠some b3/\ob≠some b4
theorem aHj (ds:List (List UInt8)) (H:aA) (hn:ds.length<=127) (hl:(lD ds).length<=1000000000):aT prog 12 [.seq 1 ((lD ds).map bD)] H fun d H'=>d=.fV [.seq 2 (C8 ds),i64 0]/\H=H':=by
 refine bM (K:=fun d=>d=.fV [.seq 2 (C8 ds),i64 0]) ?_
 have it:=TS ds hn hl
 have hpo:=fun i=>fun h:i<ds.length=>OX h
 have PB:=SA ds
 have hsg:=fun i=>fun h:i<ds.length=>@R9 ds i h
 have AL:∀i,i<ds.length->List.drop (QB ds i) (List.take (S6 ds i) ((lD ds).map bD))=(s8 ds i).map bD:=fun i h=>by
  obtain⟨p,r,h1,h2⟩:=NF h
  have e:lD ds=(p++[UInt8.ofNat (i+1)]++put (s8 ds i).length)++(s8 ds i++(leN 4 (YG 0#32 (s8 ds i))++r)):=by rw[h1];simp [eR]
  have e2:(p++[UInt8.ofNat (i+1)]++put (s8 ds i).length).length=QB ds i:=by unfold QB;simp only[bJ,nT];omega
  have e3:List.drop (QB ds i) (lD ds)=s8 ds i++(leN 4 (YG 0#32 (s8 ds i))++r):=by rw[e,<-e2,List.drop_left]
  rw[List.drop_take,<-List.map_drop,e3,<-sW,show S6 ds i - QB ds i=(s8 ds i).length by unfold S6;omega,List.take_left]
 have hdl:∀i,i<ds.length->(s8 ds i).length<=(lD ds).length:=fun i h=>by have:=(hpo i h).1;unfold S6 at this;omega
 have hdg:=fun i=>fun h:i<ds.length=>@HZ ds i h
 generalize lD ds=bs at *
 have cI:=lm bD bs
 refine xR _ _ func12 rfl rfl ntmps12 results12 (by simp) fun w0 g0 Q aC=>?_
 refine tq trivial ?_;intro Nx aB Gx aG
 intro b1 sI b2 mW b3 GQ
 refine aB _ ?_
 obtain⟨n21,mW⟩:=bT.1 mW
 obtain⟨n32,GQ⟩:=bT.1 GQ
 obtain⟨n31,GQ⟩:=bT.1 GQ
 refine bS 1 rfl (b:=b1) (by simp only[kN,oH];rw[aP (Ne.symm n31),aP (Ne.symm n21),aQ]) rfl ?_
 simp only[St.gU,kN,gV,oH,lV,pK (Ne.symm n31),pK (Ne.symm n21),nV,oU sI,List.drop]
 refine tq trivial ?_;intro Nx aB Gx aG
 intro b4 V9
 refine aB _ ?_
 obtain⟨n43,V9⟩:=bT.1 V9
 obtain⟨n42,V9⟩:=bT.1 V9
 obtain⟨H2,iW⟩:∃H2,H2=((H.bH b2 (.row 51 0 1 [[.val (.slice none 0 0)]])).bH b3 (.row 48 0 1 [[i64 0]])).bH b4 (.row 51 0 1 [[.val (.slice none 0 0)]]):=⟨_,rfl⟩
 have wZ:H.le H2:=by rw[iW];exact bQ (bQ (bQ (aE _) mW) GQ) V9
 have e2:H2 b2=some (.row 51 0 1 [[.val (.slice none 0 0)]]):=by rw[iW,aP (Ne.symm n42),aP (Ne.symm n32),aQ]
 have e3:H2 b3=some (.row 48 0 1 [[i64 0]]):=by rw[iW,aP (Ne.symm n43),aQ]
 have e4:H2 b4=some (.row 51 0 1 [[.val (.slice none 0 0)]]):=by rw[iW,aQ]
 simp only[i64] at iW
 rw[<-iW]
 clear iW
 refine tq trivial ?_;intro Nx aB Gx aG
 refine(Y2 bs _).mono ?_
 rintro d _ ⟨rfl,rfl⟩
 refine tq trivial ?_;intro Nx aB Gx aG
 refine PN (fun s=>s.df=[]/\s.fr 1=.rp [.seq 1 (bs.map bD)]/\s.fr 2=.ep b2 0 1 0 0/\s.fr 3=.ep b3 0 1 0 0/\s.fr 4=.ep b4 0 1 0 0/\s.fr 7=.fn 109 [.rp [.seq 1 (bs.map bD)]]/\s.H=H2) ⟨rfl,rfl,rfl,rfl,rfl,rfl,rfl⟩ ?_
 rintro s ⟨bG,f1,f2,f3,f4,f7,hsH⟩
 refine pX rfl it f7 (fun _ _=>trivial) (by simp) (fun _=>rfl) (RdT H ds b2 b3 b4) (fun _ _ _=>False) ?_ ?_ ?_ ?_ ?_ ?_
 ·rintro pre H1 H3 hr ⟨h1,h0,h3,h4,x,ob,h5,h6,h7⟩
  refine⟨h1,vO (BR H) h0 hr,hr _ _ h3 (by simp),hr _ _ h4 (by simp),x,ob,hr _ _ h5 (by simp),?_,h7⟩
  rcases h6 with h6|⟨c,o,g1,g2,g3,g4⟩
  ·exact .inl h6
  ·exact .inr ⟨c,o,g1,g2,g3,hr _ _ g4 (by simp)⟩
 ·exact fun _ _ _ _ _ h=>h
 ·rw[hsH]
  exact⟨tV _,tR (aCJ H) wZ,e2,e3,_,none,e4,nJ _ _ _ _,by simp,by simp,by simp⟩
 ·rintro l w1 ys x Hc o g1 oA ⟨hyl,h0,h2,h3,xs,ob,h4,hg,ob2,ob3,ob4⟩ rU s7
  obtain⟨ZJ,rfl,hyn⟩:=aCX oA
  clear ZJ
  rw[aJc]
  have uX:(C8 ds).take (ys.length+1)=(C8 ds).take ys.length++[[i64 (ys.length+1:Nat),.seq 1 ((s8 ds ys.length).map bD)]]:=by
   have h5:=hsg _ hyn
   rw[<-hdg _ hyn] at h5
   rw[List.take_add_one,h5];rfl
  have AL:=AL _ hyn
  have hdl:=hdl _ hyn
  obtain⟨ht,hf⟩:=hpo _ hyn
  have FF:QB ds ys.length<=S6 ds ys.length:=Nat.le_add_right _ _
  have hsk:((C8 ds).take ys.length).length<=127:=by rw[dJ];omega
  have aJS:(ys++[ys.length]).length=ys.length+1:=by rw[bJ];rfl
  unfold aBP
  generalize hk:ys.length=k at *
  generalize QB ds k=fr0 at *
  generalize S6 ds k=to0 at *
  generalize s8 ds k=D1 at *
  have hxf:=bL fr0
  have hxt:=bL to0
  refine tq (gE fH fM eQ cB bG) ?_;intro Nx aB Gx aG
  intro b5 O8
  refine aB _ ?_
  simp only[fL]
  refine⟨rfl,mC.new (rV _) O8,fun w2 y g2=>?_⟩
  have n5:∀c x,Hc c=some x->c≠b5:=fun c x h e=>by rw[e,O8] at h;cases h
  have ne:∀c t e,Hc c=some (.row t 0 1 e)->c≠l:=fun c t e h e2=>by rw[e2,s7] at h;cases h
  have m2:=ne _ _ _ h2
  have m3:=ne _ _ _ h3
  have m4:=ne _ _ _ h4
  have l5:=n5 _ _ s7
  refine bS 5 rfl (b:=b5) (by simp only[kN,fM,oN];rw[aP (Ne.symm l5),aQ]) rfl ?_
  simp only[St.gU,kN,fM,oN,gV,cB,l4,pK (Ne.symm l5),nV,oU O8,List.drop]
  have NW:=fun (x:gB) (hx:∀o,x≠ .obj o)=>y9 (H:=Hc) (b:=b5) (l:=l) (y:=y) hx
  have r2:=(aP (x:=.obj y) m2).trans h2
  have r3:=(aP (x:=.obj y) m3).trans h3
  have r4:=(aP (x:=.obj y) m4).trans h4
  have j9:=vO (BR H) h0 (C6 (x:=.obj y) s7)
  have KF:=hg.obj (x:=.obj y) s7
  refine tq (fJ fH fM eQ cB) ?_;intro Nx aB Gx aG
  refine wE (fun t=>decide (t=some 16\/t=some 17\/t=some 19\/t=some 21\/t=some 22)) (fun _=>false) (fun _ _ d A=>A=.none/\d=.seq 1 (D1.map bD)) (fun _ _ _ _ _=>False) fun Nx aB=>?_;have fs:=And.intro fH (And.intro fM (And.intro eQ (And.intro cB (And.intro f1 (And.intro f4 (And.intro r4 (And.intro AL (And.intro cI (And.intro hxf hxt)))))))));refine VV ?_;(first|refine aG _ ?_|refine aB _ ?_|skip);(try clear fs)
  refine⟨by omega,by omega,by omega,bN fun eL eO=>xN _ eL (by rw[bK];omega),?_⟩
  refine cY (e:=58) aID rfl aID rfl aQn rfl (by decide) j9 KF (new:=[[i64 (k+1:Nat),.seq 1 (D1.map bD)]]) (by exact⟨rfl,rfl⟩) (by show(_+1) * 32<=_;omega) fun d' H6 qL kK eJ uD=>?_
  have q2:=uD _ _ r2 ob2
  have q3:=uD _ _ r3 ob3
  have q4:=uD _ _ r4 ob4
  have uS:=kK.cells
  simp only[D.cells] at uS
  have q41:=q4.1
  (have fs:=And.intro q41 uS;refine yR ?_;try clear fs);(first|refine aG _ ?_|refine aB _ ?_|skip)
  simp only[iC,fK]
  refine⟨rfl,(LR (NW _ (by simp)) KF uD).row q41 (by simp),by rw[aJS];exact hyn,bQ eJ (C0 V9),(aP (Ne.symm n42)).trans q2.1,(aP (Ne.symm n43)).trans q3.1,d',qL,aQ _ _ _,?_,q2.2,q3.2,q4.2⟩
  rw[aJS,uX]
  exact kK.jY fun c h=>aP fun e=>q4.2 (by rw[h,e])
 ·rintro Hc M ⟨h1,h0,h2,h3,xs,ob,h4,hg,ob2,ob3,ob4⟩ rU hD QE
  rw[D3,fK,fL,bG]
  have g2:=I1 h0 (H1:=s.H) (by rw[hsH];exact wZ) rU
  have KF:Gl H 58 2 (C8 ds) xs Hc ob:=by
   rw[List.length_range,dQ (by omega)] at hg
   rcases hg with hg|⟨c,o,k1,k2,k3,k4⟩
   ·exact .inl hg
   ·refine .inr ⟨c,o,k1,k2,?_,k4⟩
    cases e:H c with
    |none=>rfl
    |some x=>
     have h5:=g2 _ _ e
     rw[k4] at h5
     injection h5 with h5
     subst h5
     have h6:H.PF c=_:=sQ e (by simp)
     rw[h6] at k3;cases k3
  have m2:b2≠M:=fun e=>by rw[e,hD] at h2;cases h2
  have m3:b3≠M:=fun e=>by rw[e,hD] at h3;cases h3
  have m4:b4≠M:=fun e=>by rw[e,hD] at h4;cases h4
  have uS:=KF.cells
  simp only[D.cells] at uS
  have r3:∀x,(aA.bH Hc b2 x) b3=some (.row 48 0 1 [[i64 0]]):=fun x=>(aP n32).trans h3
  refine tq (lM f2 f3 f4 h2 h4 uS r3) ?_;intro Nx aB Gx aG
  refine aC _ _ (.inr rfl) ?_ ?_
  ·(have fs:=f2;refine evG ?_;clear fs)
   refine mk1 ?_
   rw[aP (Ne.symm m3),aP (Ne.symm m2)];exact hD
  ·(have fs:=f2;refine evG ?_;clear fs)
   rw[LS]
   simp (maxSteps:=4000000) only[vX,vB,vT,vZ,nF,kA,ZV,LL,OB,lW,iR,lY,↓oL,TP,dM,TL,MM,SS,xE,wU,AF,AG,rA,oZ,qZ,m8,D.nilPtr,D.mK,D.mR,jH,SN,SU,GN,kU,qC,gY,lR,P6,Q9,RA,RE,BQ,PH,D.cells,qD,TJ,TE,AI,gJ,gG,PR,O7,pC,UK,AH,SB,jZ,TD.lZ,TD.agg,VI,CG,wW,YE,uZ,x7,x6,RK,P5,tH,BW,iV,nK,Value.oneCell',oR,oP,ne_eq,reduceCtorEq,sV,oT,fU,fE,↓reduceIte,Nat.reduceEqDiff,Int.reduceLE,Int.reduceLT,Int.reduceNeg,Int.reduceToNat,Nat.reduceAdd,Nat.reduceMul,Nat.reduceLeDiff,Nat.reduceMod,Nat.reduceSub,Int.reduceEq,Int.reduceNe,Int.reduceAdd,Int.reduceSub,Int.reduceMul,oQ,fH,fM,eQ,cB,fL,mD,fK,jE,iC,jN,jJ,jK,jI,i64,f2,f3,i64,aP m2,aP m3,aP (Ne.symm n32)]
   have hk:∀c,ob=some c->c≠M:=fun c h e=>by
    rcases KF with KF|⟨c',o',k1,_,_,k4⟩
    ·rw[KF.1] at h;cases h
    ·rw[k1] at h;injection h with h;rw[h,e,hD] at k4;cases k4
   have kL:=fun x y z=>bQ (x:=z) (bQ (x:=y) (bQ (x:=x) g2 mW) GQ) (AA wZ (by rw[<-hsH];exact QE))
   exact⟨_,aE _,kL _ _ _,_,pS (TT (sF (kL _ _ _) (KF.jY fun c h=>by rw[aP (hk c h),aP (fun e=>ob3 (by rw[h,e])),aP (fun e=>ob2 (by rw[h,e]))])) (aJ (kL _ _ _))),rfl⟩
 ·exact fun _ _ _ _ _ _ h=>h.elim
end Go.Proofs.YtelbfbioomcmeaaGreatDoor

