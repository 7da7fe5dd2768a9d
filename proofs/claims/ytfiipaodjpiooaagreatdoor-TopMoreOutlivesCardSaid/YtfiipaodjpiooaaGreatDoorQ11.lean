/- Lemmas and contracts of functions, several texts in one. -/
import Derived.Test.YtfiipaodjpiooaaGreatDoorQ10
import Derived.Maps.RangeRun
set_option maxRecDepth 100000
set_option maxHeartbeats 4000000
set_option linter.all false
namespace Go.Proofs.YtfiipaodjpiooaaGreatDoor
open Go.ChangeMaps (setBlock)
open Go.RowKit
def TP (H:aC) (b r:Nat) (kO:List (Value×Value)):Prop:=
 ∃es cI mL seen c0,H b=some (.obj (.map es cI))/\H r=some (.obj (.mapIter (some b) mL seen c0))/\(∀x∈es.toList,x.born<mL)/\mL<=c0/\mL<=cI/\
  (es.toList.map (·.born)).Nodup/\kO=(leftOf es seen).toList.map fun e=>(e.key,e.val)
def aAB (H:aC) (b r:Nat) (p:Value×Value):Prop:=
 ∃(es:Array MapEntry) (cI mL:Nat) (seen:Array Nat) (e:MapEntry),H b=some (.obj (.map es cI))/\H r=some (.obj (.mapIter (some b) mL (seen.push e.born) cI))/\e∈es.toList/\(es.toList.map (·.born)).Nodup/\p=(e.key,e.val)
theorem TP.fS {H H':aC} {b r:Nat} {kO:List (Value×Value)} (h:TP H b r kO) (hb:H' b=H b) (hr:H' r=H r):TP H' b r kO:=by
 obtain⟨es,cI,mL,seen,c0,h1,h2,h3⟩:=h
 exact⟨es,cI,mL,seen,c0,hb.trans h1,hr.trans h2,h3⟩
theorem aAB.fS {H H':aC} {b r:Nat} {p:Value×Value} (h:aAB H b r p) (hb:H' b=H b) (hr:H' r=H r):aAB H' b r p:=by
 obtain⟨es,cI,mL,seen,e,h1,h2,h3⟩:=h
 exact⟨es,cI,mL,seen,e,hb.trans h1,hr.trans h2,h3⟩
theorem ZM {w:World} {S:Nat->Prop}:∀(vs:List (Value×Value)) (us:List Value),aW w S ((vs.map fun p=>(p.1,D.val p.2)).map (·.2)) us->us=vs.map (·.2)
 |[],us,h=>by simpa [aW] using h
 |p::vs,us,h=>by
  simp only[eU,aW,D.is] at h
  obtain⟨u,K9,rfl,rfl,h⟩:=h
  rw[ZM vs K9 h]
  rfl
theorem R2:∀(l:List MapEntry) (vs:List (Value×Value)),l.map (·.key)=vs.map (·.1)->l.map (·.val)=vs.map (·.2)->l.map (fun e=>(e.key,e.val))=vs
 |[],[],_,_=>rfl
 |[],_::_,h,_=>by cases h
 |_::_,[],h,_=>by cases h
 |e::l,p::vs,h1,h2=>by
  simp only[eU,F7] at h1 h2 ⊢
  exact⟨by rw[h1.1,h2.1],R2 l vs h1.2 h2.2⟩
theorem P9 {cx:Cx} {o:Oper} {K:St->Prop} {s:St} {t k e:TypeId} {x:Operand} {b:Nat} (vs:List (Value×Value)) (e0:o.op=.range t x) (hd:DE cx.n o.dst) (ht:cx.P.underlying t=some (.map k e))
  (hx:s.ev x=.val (.map (some b))) (hb:s.H b=some (.map (vs.map fun p=>(p.1,.val p.2))))
  (h:∀r H',s.H r=none->r≠b->TP H' b r vs->(∀c,c≠b->c≠r->H' c=s.H c)->K ((s.dY H').put o.dst (.val (.pointer (some ⟨r,0,none⟩))))):WO cx o K s:=
 uF (by simp [e0]) hd fun a w m=>by
  have NG:=m.xS x
  rw[hx] at NG
  have OE:=dZ NG
  obtain⟨es,cI,h1,h2,h3,h4,h5,h6⟩:=m.H _ _ hb
  have kL:b<w.heap.size:=(tL.1 h1).1
  have fM:w.heap.size≠b:=by omega
  have aA9:Dom (s.H.bH b (.obj (.map es cI))) s.H:=fun c hc=>by
   rw[aN (fun e=>by rw[e,hb] at hc;cases hc)];exact hc
  have uK:iK w (s.H.bH b (.obj (.map es cI))):=fun c y hc=>by
   by_cases ec:c=b
   ·subst ec
    rw[aO] at hc
    injection hc with hc
    subst hc
    exact h1
   ·rw[aN ec] at hc
    exact(xT aA9 w).sZ rfl (m.H c y hc)
  have mV:iK (w.alloc (.mapIter (some b) cI #[] cI)) ((s.H.bH b (.obj (.map es cI))).bH w.heap.size (.obj (.mapIter (some b) cI #[] cI))):=iK.alloc uK (heap_alloc_new w _)
  refine⟨.pointer (some ⟨w.heap.size,0,none⟩),_,_,_,?_,uA _,mV,(xT aA9 w).trans (jZ _ _ uK),h w.heap.size _ (jF m.H) fM ⟨es,cI,cI,#[],cI,?_,aO ..,?_,dI _,dI _,h6,?_⟩ ?_⟩
  ·simp only[execOp,e0,OE]
   have:=run_range_map (P:=cx.P) w t k e b es cI ht h1
   simp only[Sem.run_bind,this,Result.andThen,Sem.run_pure]
  ·rw[aN (Ne.symm fM),aO]
  ·intro y hy
   exact h5 _ (KR (f:=(·.born)) hy)
  ·have hl:leftOf es #[]=es:=by
    unfold leftOf
    rw[Array.filter_eq_self]
    intro y _
    simp
   rw[hl]
   refine(R2 _ _ ?_ ?_).symm
   ·rw[h2,oZ];rfl
   ·exact ZM vs _ h3
  ·intro c hc hr
   rw[aN hr,aN hc]
theorem IA {l:List MapEntry} {l1 l2:List MapEntry} {e:MapEntry} (hn:(l.map (·.born)).Nodup) (hl:l=l1++e::l2):l.filter (fun x=> !(x.born==e.born))=l1++l2:=by
 subst hl
 rw[cQ,eU,yI] at hn
 obtain⟨h1,h2,h3⟩:=hn
 rw[zT] at h2
 rw[tM,List.filter_cons]
 simp only[BEq.rfl,rN,mF,fW]
 congr 1
 ·refine PR.2 fun x hx=>?_
  have:=h3 x.born (KR (f:=(·.born)) hx) e.born (by simp)
  simpa using this
 ·refine PR.2 fun x hx=>?_
  have:x.born≠e.born:=fun e1=>h2.1 (by rw[<-e1];exact KR (f:=(·.born)) hx)
  simpa using this
theorem aFQ {es:Array MapEntry} {seen:Array Nat} {e:MapEntry} {l1 l2:List MapEntry} (hn:(es.toList.map (·.born)).Nodup) (hl:(leftOf es seen).toList=l1++e::l2):(leftOf es (seen.push e.born)).toList=l1++l2:=by
 have h1:(leftOf es (seen.push e.born)).toList=(leftOf es seen).toList.filter (fun x=> !(x.born==e.born)):=by
  unfold leftOf
  rw[Array.toList_filter,Array.toList_filter,List.filter_filter]
  refine List.filter_congr fun x _=>?_
  rw[contains_push]
  cases seen.contains x.born <;> cases (x.born==e.born) <;> rfl
 rw[h1]
 refine IA ?_ hl
 unfold leftOf
 rw[Array.toList_filter]
 exact hn.sublist (List.Sublist.map _ List.filter_sublist)
theorem IX {cx:Cx} {o:Oper} {K:St->Prop} {s:St} {x:Operand} {b r:Nat} {kO:List (Value×Value)} (e0:o.op=.next x false) (hd:DE cx.n o.dst)
  (hx:s.ev x=.val (.pointer (some ⟨r,0,none⟩))) (hR:TP s.H b r kO) (h0:kO=[]->K (s.put o.dst (.pG [.val (.bool false)])))
  (h1:∀l1 p l2 H',kO=l1++p::l2->TP H' b r (l1++l2)->aAB H' b r p->(∀c,c≠r->H' c=s.H c)->K ((s.dY H').put o.dst (.pG [.val (.bool true),.val p.1,.val p.2]))):WO cx o K s:=
 uF (by simp [e0]) hd fun a w m=>by
  have NG:=m.xS x
  rw[hx] at NG
  have OE:=dZ NG
  obtain⟨es,cI,mL,seen,c0,hb,hr,hold,hsc,TI,IK,rfl⟩:=hR
  have wb:w.heap[b]?=some (.map es cI):=m.H _ _ hb
  have wr:w.heap[r]?=some (.mapIter (some b) mL seen c0):=m.H _ _ hr
  have hbr:b≠r:=fun e=>by rw[e,wr] at wb;cases wb
  rcases run_next_at (P:=cx.P) w o.type r b mL c0 seen es cI wr wb hold hsc with⟨z,yP⟩|⟨e,he,w1,rJ,yP⟩
  ·refine⟨.tuple #[.bool false],w,_,s.H,?_,?_,m.H,fT _ _,h0 ?_⟩
   ·simp only[execOp,e0,OE,Sem.run_bind,yP,Result.andThen,Sem.run_pure]
   ·simp only[D.is,aW]
    exact⟨_,rfl,_,_,rfl,rfl,rfl⟩
   ·have:leftOf es seen= #[]:=Array.eq_empty_of_size_eq_zero z
    rw[this];rfl
  ·obtain⟨l1,l2,hl⟩:=PV he
   have hw1:w1.heap=w.heap:=by rcases rJ with rfl|rfl <;> rfl
   have he1:Ev s.H w s.H w1:=by
    rcases rJ with rfl|rfl
    ·exact fT _ _
    ·exact sV _ _
   have wr1:w1.heap[r]?=some (.mapIter (some b) mL seen c0):=by rw[hw1];exact wr
   have tU:=MapKept.heap_set (o':=.mapIter (some b) mL (seen.push e.born) cI) wr1
   have uK:iK w1 s.H:=by
    rcases rJ with rfl|rfl
    ·exact m.H
    ·exact m.H.drew
   have lO:Ev s.H w1 (s.H.bH r (.obj (.mapIter (some b) mL (seen.push e.born) cI))) (setBlock w1 r (.mapIter (some b) mL (seen.push e.born) cI)):=
    pO (by rw[hr];simp) rfl rfl rfl (by simp [setBlock]) (fun c hc=>tU.2 c hc) fun cs t fr h=>by
     rw[wr1] at h
     cases h
   have fI:=mW uK lO (fun c hc=>tU.2 c hc) (x:=.obj (.mapIter (some b) mL (seen.push e.born) cI)) tU.1
   have M9:(s.H.bH r (.obj (.mapIter (some b) mL (seen.push e.born) cI))) b=some (.obj (.map es cI)):=by rw[aN hbr];exact hb
   obtain⟨hem,hes⟩:=mem_left he
   refine⟨.tuple #[.bool true,e.key,e.val],_,_,_,?_,?_,fI,he1.trans lO,h1 (l1.map fun e=>(e.key,e.val)) (e.key,e.val) (l2.map fun e=>(e.key,e.val)) _ (by rw[hl,cQ,eU]) ⟨es,cI,mL,seen.push e.born,cI,M9,aO ..,hold,TI,TI,IK,?_⟩ ⟨es,cI,mL,seen,e,M9,aO ..,hem,IK,rfl⟩ (fun c hc=>aN hc)⟩
   ·simp only[execOp,e0,OE,Sem.run_bind,yP,Result.andThen,Sem.run_pure]
   ·simp only[D.is,aW]
    exact⟨_,rfl,_,_,rfl,rfl,_,_,rfl,rfl,_,_,rfl,rfl,rfl⟩
   ·rw[aFQ IK hl,cQ]
theorem DZ {cx:Cx} {o:Oper} {K:St->Prop} {s:St} {x:Operand} {b r:Nat} {p:Value×Value} (e0:o.op=.entry x) (hd:DE cx.n o.dst)
  (hx:s.ev x=.val (.pointer (some ⟨r,0,none⟩))) (hR:aAB s.H b r p) (h:K (s.put o.dst (.pG [.val p.1,.val p.2]))):WO cx o K s:=
 lB (by simp [e0]) hd fun a w m=>by
  have NG:=m.xS x
  rw[hx] at NG
  have OE:=dZ NG
  obtain⟨es,cI,mL,seen,e,hb,hr,hem,IK,rfl⟩:=hR
  refine⟨.tuple #[e.key,e.val],_,?_,?_,h⟩
  ·simp only[execOp,e0,OE,Sem.run_bind,run_entry_at (P:=cx.P) w r b mL seen es cI e (m.H _ _ hr) (m.H _ _ hb) hem IK,Result.andThen,Sem.run_pure]
  ·simp only[D.is,aW]
   exact⟨_,rfl,_,_,rfl,rfl,_,_,rfl,rfl,rfl⟩
end Go.Proofs.YtfiipaodjpiooaaGreatDoor
namespace Go.Proofs.YtfiipaodjpiooaaGreatDoor
open Go.RowKit
def YJ {α:Type} (J:List α->aC->Prop) (pre:List α) (b:Nat) (y:fK) (H:aC):Prop:=∃Hc,H=Hc.bH b y/\(∀z,Hc b=some z->∃o,z=.obj o)/\J pre Hc
theorem dF.hold {cx:Cx} {s:St} {a:Act} {w:World} (m:dF cx s a w) {b:Nat} {t:TypeId} {o sz:Nat} {els:List (List D)} (hb:s.H b=some (.row t o sz els)):∃ob,w.heap[b]?=some ob/\Ev s.H w (s.H.bH b (.obj ob)) w/\dF cx (s.dY (s.H.bH b (.obj ob))) a w:=by
 obtain⟨cs,fr,h1,_⟩:=m.H b _ hb
 have lO:Ev s.H w (s.H.bH b (.obj (.cells cs t fr))) w:=pO (by rw[hb];simp) rfl rfl rfl rfl (fun _ _=>rfl) fun w9 t' fr' h=>⟨w9,fr',h,rfl⟩
 exact⟨_,h1,lO,m.go lO (mW m.H lO (fun _ _=>rfl) h1)⟩
theorem aE3 {α:Type} {cx:Cx} {o:Oper} {K:St->Prop} {s:St} {c:Call} {f:Operand} {l:Nat} {J Jx:List α->aC->Prop} {nR:α->List D} {Pf:List α->Prop} (pre:List α) (x:α) {b:Nat} {t:TypeId} {ro sz:Nat} {els:List (List D)}
  (AB:o.op=.call c) (X3:c.callee=.value f) (hf:s.ev f=yD l) (hd:DE cx.n o.dst) (hY:YCG cx.P l cx.H0 cx.w0 J Jx nR Pf) (hC:NS cx.H0 J) (hb:cx.H0 b=none) (hx:Pf (pre++[x])) (hJ:YJ J pre b (.row t ro sz els) s.H) (ha:s.G3 c.args=nR x)
  (ht:∀H',YJ J (pre++[x]) b (.row t ro sz els) H'->K ((s.dY H').put o.dst (.val (.bool true)))) (hn:∀H',YJ Jx (pre++[x]) b (.row t ro sz els) H'->K ((s.dY H').put o.dst (.val (.bool false)))):WO cx o K s:=fun a w m=>by
 refine⟨oH,?_⟩
 rw[MG (by simp [AB])]
 obtain⟨Hc,hH,hz,hj⟩:=hJ
 have hsb:s.H b=some (.row t ro sz els):=by rw[hH,aO]
 obtain⟨ob,kN,aAa,m0⟩:=m.hold hsb
 have hH0:s.H.bH b (.obj ob)=Hc.bH b (.obj ob):=by rw[hH,F9]
 have hj0:J pre (s.H.bH b (.obj ob)):=by rw[hH0];exact hC _ _ _ _ hb hz hj
 have hfv:=m.xS f
 rw[hf] at hfv
 simp only[yD,D.is] at hfv
 have xX:=m0.aEx c.args
 have ha0:(s.dY (s.H.bH b (.obj ob))).G3 c.args=nR x:=ha
 rw[ha0] at xX
 obtain⟨fn,tmps,assign,body,hy,hR⟩:=hY pre x _ w _ hx hj0 m0.H m0.ev xX
 have yP:(execOp a.eval o).run cx.P w=.ok (.round l fn tmps assign body) w:=by
  simp only[execOp,AB,resolve,X3,hfv,Deferred.ofValue,Sem.run_bind,Sem.run_pure,Result.andThen,invoke]
  have e:(c.args.map a.eval).toList.toArray=c.args.map a.eval:=Array.toArray_toList
  rw[e] at hy
  simpa using hy
 rw[yP,Oper.uponIn_round]
 refine⟨fun hd0=>(by cases hd0),?_⟩
 have hR2:RoundIn (FR cx.ro) 8 cx.P l fn tmps assign body w _:=hR
 have aR9:∀(H':aC) (w':World),iK w' H'->Ev (s.H.bH b (.obj ob)) w H' w'->H' b=some (.obj ob)->dF cx (s.dY (H'.bH b (.row t ro sz els))) a w':=fun H' w' h1 h2 h3=>by
  have h4:w'.heap[b]?=some ob:=h1 b _ h3
  have aKY:Ev H' w' (H'.bH b (.row t ro sz els)) w':=pO (by rw[h3];simp) rfl rfl rfl rfl (fun _ _=>rfl) fun w9 t' fr' h=>⟨w9,fr',h,rfl⟩
  have HN:Ev s.H w (H'.bH b (.row t ro sz els)) w':=(aAa.trans h2).trans aKY
  exact m.go HN (mW h1 aKY (fun _ _=>rfl) (HN.sZ (h4.trans kN.symm) (m.H b _ hsb)))
 refine hR2.mono fun e w' ⟨H',h1,h2,h5,h3⟩=>?_
 have h6:H' b=some (.obj ob):=h5 b ob hb (aO _ _ _)
 rcases h3 with⟨rfl,h3⟩|⟨rfl,h3⟩
 ·exact⟨_,(aR9 H' w' h1 h2 h6).put (j8 hd) (by simp only[D.is]),ht _ ⟨H',rfl,fun z h=>⟨ob,by rw[h6] at h;injection h with h;exact h.symm⟩,h3⟩⟩
 ·exact⟨_,(aR9 H' w' h1 h2 h6).put (j8 hd) (by simp only[D.is]),hn _ ⟨H',rfl,fun z h=>⟨ob,by rw[h6] at h;injection h with h;exact h.symm⟩,h3⟩⟩
def aPh {α:Type} (J Jx:List α->aC->Prop) (xs:List α) (H0 H:aC):Prop:=
 (J xs H\/∃pre,Jx pre H)\/∃b t o sz els,H0 b=none/\(YJ J xs b (.row t o sz els) H\/∃pre,YJ Jx pre b (.row t o sz els) H)
theorem aHY {α:Type} {P:Program} {f:FuncId} {fn:Func} {c:Code} {eL:List D} {nR:α->List D} {xs:List α} {ok:aC->Prop} (N:Nat) (hf:P.funcs[f]?=some fn) (x5:(fn.name== "runtime.NumGoroutine")=false) (hb:fn.body=some c) (hN:fn.ntmps=N) (OZ:fn.results= #[]) (hl:eL.length+1<=N)
  (h:∀(l:Nat) (J Jx:List α->aC->Prop) (H:aC) (w0:World) (g0:DW w0 H) (Q:Exit->St->Prop),ok H->J [] H->NS H J->NS H Jx->YC P l H w0 J Jx nR xs->(∀e s,e=.normal\/e=.ret->s.df=[]->aPh J Jx xs H s.H->Q e s)->W ⟨P,none,N,H,w0,g0⟩ c Q (St.init (yD l::eL) H)):Z8 P f eL nR xs ok:=And.intro (uH hf x5 hb) fun l J Jx H w vs fI hH hG hJ hC hCx _ hY zD=>by
 have aHo:Calls P f vs.toArray w fun e w'=>∃v d H',e=.returned v/\D.is w' H'.others d v/\iK w' H'/\Ev H w H' w'/\(J xs H'\/∃pre,Jx pre H'):=by
  refine vA (ro:=none) (n:=9) (callsIn_of_wp hf hb trivial ?_ rfl)
  have fJ:=lA zD
  obtain⟨ds,hds⟩:∃ds,ds=yD l::eL:=⟨_,rfl⟩
  have hl':ds.length<=N:=by rw[hds];exact hl
  have m:dF ⟨P,none,N,H,w,hG⟩ (St.init (yD l::eL) H) {tmps:=vs.toArray++Array.replicate (fn.ntmps - vs.toArray.size) undef,defers:=[]} w:=by
   rw[<-hds] at fJ zD ⊢
   refine⟨by simp;omega,rfl,fun t=>?_,hH,fT _ _⟩
   simp only[St.init]
   rcases oC t ds.length with kL|GM
   ·obtain⟨v,h1,h2⟩:=nL zD t ds[t] (by simp [kL])
    have e1:ds.getD t (.val undef)=ds[t]:=by simp [List.getD,kL]
    have e2:(vs.toArray++Array.replicate (fn.ntmps - vs.toArray.size) undef).getD t undef=v:=by
     rw[v8,FW (by simp;omega)]
     simp [h1]
    rw[e1,e2];exact h2
   ·have e1:ds.getD t (.val undef)=.val undef:=by simp [List.getD,GM]
    rw[e1]
    simp only[D.is]
    rw[v8,FV (by simp;omega),KL]
    split <;> rfl
  refine wpIn_mono (h l J Jx H w hG (fun e s=>(e=.normal\/e=.ret)/\s.df=[]/\aPh J Jx xs H s.H) fI hJ hC hCx hY (fun e s he aT hr=>⟨he,aT,hr⟩) _ _ m) fun e a' w' ⟨s',m',he,aT,q⟩=>?_
  have fin:∃s2:St,s2.df=[]/\dF ⟨P,none,N,H,w,hG⟩ s2 a' w'/\(J xs s2.H\/∃pre,Jx pre s2.H):=by
   rcases q with q|⟨b,t,o,sz,els,wN,q⟩
   ·exact⟨s',aT,m',q⟩
   ·rcases q with⟨Hc,uK,hz,hj⟩|⟨pre,Hc,uK,hz,hj⟩
    ·obtain⟨ob,_,_,m2⟩:=m'.hold (b:=b) (by rw[uK,aO])
     refine⟨s'.dY (s'.H.bH b (.obj ob)),aT,m2,.inl ?_⟩
     show J xs (s'.H.bH b (.obj ob))
     rw[uK,F9]
     exact hC _ _ _ _ wN hz hj
    ·obtain⟨ob,_,_,m2⟩:=m'.hold (b:=b) (by rw[uK,aO])
     refine⟨s'.dY (s'.H.bH b (.obj ob)),aT,m2,.inr ⟨pre,?_⟩⟩
     show Jx pre (s'.H.bH b (.obj ob))
     rw[uK,F9]
     exact hCx _ _ _ _ wN hz hj
  obtain⟨s2,qX,m2,DR⟩:=fin
  have q2:aEq ⟨P,none,N,H,w,hG⟩ fn (fun _ H'=>J xs H'\/∃pre,Jx pre H') .ret s2:=ED (.inr rfl) qX (by rw[OZ];exact⟨s2.H,aG _,DR⟩)
  have key:a'.defers=[]/\∃v,(results fn a'.tmps).run P w'=.ok v w'/\∃v' d H',Ending.returned v=.returned v'/\D.is w' H'.others d v'/\iK w' H'/\Ev H w H' w'/\(J xs H'\/∃pre,Jx pre H'):=by
   obtain⟨aT,fG⟩:=q2
   obtain⟨v,d,H',h1,h2,h3,h4⟩:=fG a' w' m2
   have m3:=m2.less h3
   exact⟨m2.df.trans aT,v,h1,v,d,H',rfl,h2,m3.H,m3.ev,h4⟩
  rcases he with rfl|rfl
  ·obtain⟨h1,v,h2,h3⟩:=key
   exact⟨h1,v,h2,h3⟩
  ·obtain⟨h1,v,h2,h3⟩:=key
   exact⟨h1,v,h2,h3⟩
 refine aHo.mono ?_
 rintro e w' ⟨v,d,H',h1,_,h3,h4,h5⟩
 exact⟨v,H',h1,h3,h4,h5.imp (fun h=>⟨_,rfl,h⟩) id⟩
def aC.DS (H:aC):aC:=fun b=>match H b with
 |some (.obj _)=>Option.none
 |x=>x
theorem rX (H:aC):∀b o,H.DS b≠some (.obj o):=fun b o h=>by
 unfold aC.DS at h
 split at h
 ·cases h
 ·rename_i hx;exact hx o h
theorem L6 (H:aC):H.DS.le H:=fun b x h=>by
 unfold aC.DS at h
 split at h
 ·cases h
 ·exact h
theorem pS {H:aC} {b:Nat} {x:fK} (h:H b=some x) (hx:∀o,x≠ .obj o):H.DS b=some x:=by
 unfold aC.DS
 split
 ·rename_i o e
  rw[h] at e
  injection e with e
  exact absurd e (hx o)
 ·exact h
theorem rB {H:aC} {b:Nat} (h:H b=Option.none):H.DS b=Option.none:=by
 unfold aC.DS;rw[h]
theorem vH {H H1 Hc:aC} (h1:H.DS.le Hc) (h2:H.le H1) (h3:lU H1 Hc):H.le Hc:=fun b x hb=>by
 cases x with
 |obj o=>exact h3 b o (h2 b _ hb)
 |row t o sz els=>exact h1 b _ (pS hb (by simp))
 |map m=>exact h1 b _ (pS hb (by simp))
 |hid=>exact h1 b _ (pS hb (by simp))
theorem XY {H:aC} {e:TypeId} {sz:Nat} {els:List (List D)} {d:D} {Hc:aC} {ob:Option Nat} (h:Gl H.DS e sz els d Hc ob) (aS:H.le Hc):Gl H e sz els d Hc ob:=by
 rcases h with h|⟨c,o,h1,h2,h3,h4⟩
 ·exact .inl h
 ·refine .inr ⟨c,o,h1,h2,?_,h4⟩
  cases hx:H c with
  |none=>rfl
  |some x=>
   cases x with
   |obj o=>have:=aS _ _ hx;rw[h4] at this;cases this
   |row t o sz els=>rw[pS hx (by simp)] at h3;cases h3
   |map m=>rw[pS hx (by simp)] at h3;cases h3
   |hid=>rw[pS hx (by simp)] at h3;cases h3
theorem nU {H0 H H':aC} (yJ:∀b o,H0 b≠some (.obj o)) (h:H0.le H) (hr:SB H H'):H0.le H':=fun b x hb=>hr b x (h b x hb) (fun o e=>yJ b o (by rw[hb,e]))
theorem w8 {α:Type} {cx:Cx} {o:Oper} {K:St->Prop} {s:St} {c:Call} {f:Operand} {l:Nat} {H0:aC} {w0:World} {J Jx:List α->aC->Prop} {nR:α->List D} {Pf:List α->Prop} (pre:List α) (x:α)
  (AB:o.op=.call c) (X3:c.callee=.value f) (hf:s.ev f=yD l) (hd:DE cx.n o.dst) (hY:YCG cx.P l H0 w0 J Jx nR Pf) (hE:Ev H0 w0 cx.H0 cx.w0) (hx:Pf (pre++[x])) (hJ:J pre s.H) (ha:s.G3 c.args=nR x)
  (ht:∀H',J (pre++[x]) H'->(∀b o,H0 b=none->s.H b=some (.obj o)->H' b=some (.obj o))->K ((s.dY H').put o.dst (.val (.bool true)))) (hn:∀H',Jx (pre++[x]) H'->(∀b o,H0 b=none->s.H b=some (.obj o)->H' b=some (.obj o))->K ((s.dY H').put o.dst (.val (.bool false)))):WO cx o K s:=fun a w m=>by
 refine⟨oH,?_⟩
 rw[MG (by simp [AB])]
 have hfv:=m.xS f
 rw[hf] at hfv
 simp only[yD,D.is] at hfv
 have xX:=m.aEx c.args
 rw[ha] at xX
 obtain⟨fn,tmps,assign,body,hy,hR⟩:=hY pre x s.H w _ hx hJ m.H (hE.trans m.ev) xX
 have yP:(execOp a.eval o).run cx.P w=.ok (.round l fn tmps assign body) w:=by
  simp only[execOp,AB,resolve,X3,hfv,Deferred.ofValue,Sem.run_bind,Sem.run_pure,Result.andThen,invoke]
  have e:(c.args.map a.eval).toList.toArray=c.args.map a.eval:=Array.toArray_toList
  rw[e] at hy
  simpa using hy
 rw[yP,Oper.uponIn_round]
 refine⟨fun hd0=>(by cases hd0),?_⟩
 have hR2:RoundIn (FR cx.ro) 8 cx.P l fn tmps assign body w _:=hR
 refine hR2.mono fun e w' ⟨H',h1,h2,h5,h3⟩=>?_
 rcases h3 with⟨rfl,h3⟩|⟨rfl,h3⟩
 ·exact⟨_,(m.go h2 h1).put (j8 hd) (by simp only[D.is]),ht H' h3 h5⟩
 ·exact⟨_,(m.go h2 h1).put (j8 hd) (by simp only[D.is]),hn H' h3 h5⟩
def mkO (H0:aC):List Deferred->aC->Prop
 |[],_=>True
 |d::ds,H=>∃D,d=xO D/\H0 D=none/\H D=some (.obj MY)/\mkO H0 ds (H.bH D (.obj (.deferred none)))
def aHv:List Deferred->aC->aC
 |[],H=>H
 |d::ds,H=>match d.target with
  | .collected D=>aHv ds (H.bH D (.obj (.deferred none)))
  |_=>aHv ds H
theorem QL {α:Type} {H0:aC} {J:List α->aC->Prop} (hC:NS H0 J) {pre:List α}:∀(ds:List Deferred) (H:aC),mkO H0 ds H->J pre H->J pre (aHv ds H)
 |[],_,_,h=>h
 |d::ds,H,hm,h=>by
  obtain⟨D,rfl,h0,hD,hm⟩:=hm
  exact QL hC ds _ hm (hC _ _ _ _ h0 (fun z hz=>⟨_,by rw[hD] at hz;injection hz with hz;exact hz.symm⟩) h)
theorem aDf {cx:Cx} {fn:Func} {R:Ending->World->Prop} {H0:aC}:∀(ds:List Deferred) (s:St) (a:Act) (w:World),dF cx s a w->mkO H0 ds s.H->
  (∀a' w',a'.tmps=a.tmps->dF cx {s with H:=aHv ds s.H,df:=[]} a' w'->∃v,(results fn a'.tmps).run cx.P w'=.ok v w'/\R (.returned v) w')->LeavesInM (FR none) 9 cx.P fn a.tmps R ds .returning w
 |[],s,a,w,m,_,h=>by
  obtain⟨v,h1,h2⟩:=h {a with defers:=[]} w rfl (m.aRY [])
  exact⟨v,h1,h2⟩
 |d::ds,s,a,w,m,hm,h=>by
  obtain⟨D,rfl,_,hD,hm⟩:=hm
  have LY:w.heap[D]?=some MY:=m.H D _ hD
  obtain⟨lO,fI⟩:=QZ (o':=.deferred none) (y:=.obj (.deferred none)) m.H hD LY (fun _ _ _ h=>by cases h) (FI LY)
  refine⟨by simp [xO],.inl ⟨D,_,rfl,run_takeDeferred LY,?_⟩⟩
  exact aDf ds (s.dY (s.H.bH D (.obj (.deferred none)))) a _ (m.go lO fI) hm h
theorem aHZ {α:Type} {P:Program} {f:FuncId} {fn:Func} {c:Code} {eL:List D} {nR:α->List D} {xs:List α} {ok:aC->Prop} (N:Nat) (hf:P.funcs[f]?=some fn) (x5:(fn.name== "runtime.NumGoroutine")=false) (hb:fn.body=some c) (hN:fn.ntmps=N) (OZ:fn.results= #[]) (hl:eL.length+1<=N)
  (h:∀(l:Nat) (J Jx:List α->aC->Prop) (H:aC) (w0:World) (g0:DW w0 H) (Q:Exit->St->Prop),ok H->J [] H->NS H J->NS H Jx->YC P l H w0 J Jx nR xs->(∀e s,e=.normal\/e=.ret->mkO H s.df s.H->(J xs s.H\/∃pre,Jx pre s.H)->Q e s)->W ⟨P,none,N,H,w0,g0⟩ c Q (St.init (yD l::eL) H)):Z8 P f eL nR xs ok:=And.intro (uH hf x5 hb) fun l J Jx H w vs fI hH hG hJ hC hCx _ hY zD=>by
 have aHo:Calls P f vs.toArray w fun e w'=>∃v d H',e=.returned v/\D.is w' H'.others d v/\iK w' H'/\Ev H w H' w'/\(J xs H'\/∃pre,Jx pre H'):=by
  refine vA (ro:=none) (n:=9) (callsIn_of_wp_marks hf hb trivial ?_ rfl)
  have fJ:=lA zD
  obtain⟨ds,hds⟩:∃ds,ds=yD l::eL:=⟨_,rfl⟩
  have hl':ds.length<=N:=by rw[hds];exact hl
  have m:dF ⟨P,none,N,H,w,hG⟩ (St.init (yD l::eL) H) {tmps:=vs.toArray++Array.replicate (fn.ntmps - vs.toArray.size) undef,defers:=[]} w:=by
   rw[<-hds] at fJ zD ⊢
   refine⟨by simp;omega,rfl,fun t=>?_,hH,fT _ _⟩
   simp only[St.init]
   rcases oC t ds.length with kL|GM
   ·obtain⟨v,h1,h2⟩:=nL zD t ds[t] (by simp [kL])
    have e1:ds.getD t (.val undef)=ds[t]:=by simp [List.getD,kL]
    have e2:(vs.toArray++Array.replicate (fn.ntmps - vs.toArray.size) undef).getD t undef=v:=by
     rw[v8,FW (by simp;omega)]
     simp [h1]
    rw[e1,e2];exact h2
   ·have e1:ds.getD t (.val undef)=.val undef:=by simp [List.getD,GM]
    rw[e1]
    simp only[D.is]
    rw[v8,FV (by simp;omega),KL]
    split <;> rfl
  refine wpIn_mono (h l J Jx H w hG (fun e s=>(e=.normal\/e=.ret)/\mkO H s.df s.H/\(J xs s.H\/∃pre,Jx pre s.H)) fI hJ hC hCx hY (fun e s he hm hr=>⟨he,hm,hr⟩) _ _ m) fun e a' w' ⟨s',m',he,hm,q⟩=>?_
  have key:LeavesInM (FR none) 9 P fn a'.tmps (fun e w'=>∃v d H',e=.returned v/\D.is w' H'.others d v/\iK w' H'/\Ev H w H' w'/\(J xs H'\/∃pre,Jx pre H')) a'.defers .returning w':=by
   rw[m'.df]
   refine aDf s'.df s' a' w' m' hm fun a2 w2 ht m2=>?_
   have hq:aEq ⟨P,none,N,H,w,hG⟩ fn (fun _ H'=>J xs H'\/∃pre,Jx pre H') .normal {s' with H:=aHv s'.df s'.H,df:=[]}:=ED (.inl rfl) rfl (by
    rw[OZ]
    refine⟨_,aG _,?_⟩
    rcases q with q|⟨pre,q⟩
    ·exact .inl (QL hC _ _ hm q)
    ·exact .inr ⟨pre,QL hCx _ _ hm q⟩)
   obtain⟨v,d,H',h1,h2,h3,h4⟩:=hq.2 a2 w2 m2
   have m3:=m2.less h3
   exact⟨v,h1,v,d,H',rfl,h2,m3.H,m3.ev,h4⟩
  rcases he with rfl|rfl
  ·exact key
  ·exact key
 refine aHo.mono ?_
 rintro e w' ⟨v,d,H',h1,_,h3,h4,h5⟩
 exact⟨v,H',h1,h3,h4,h5.imp (fun h=>⟨_,rfl,h⟩) id⟩
end Go.Proofs.YtfiipaodjpiooaaGreatDoor

