/- Lemmas and contracts of functions, several texts in one. -/
import Derived.Test.YtfiipaodjpiooaaGreatDoorQ07
import Derived.Test.YtfiipaodjpiooaaGreatDoorQ08
import Derived.RangeFuncIn
import Derived.RangeFuncRecord
import Derived.RangeFuncLeaves
import Derived.RangeFuncSeq
set_option maxRecDepth 100000
set_option maxHeartbeats 4000000
set_option linter.all false
namespace Go.Proofs.YtfiipaodjpiooaaGreatDoor
open Go.RowKit
theorem aFe {F:Fence} {n:Nat} {P:Program} {o:Oper} {a:Act} {w:World} {K K':Act->World->Prop} {Q Q':Exit->Act->World->Prop} (h:o.wpIn F n P a w K Q) (hk:∀a w,K a w->K' a w) (hq:∀e a w,e≠ .normal->Q e a w->Q' e a w):o.wpIn F n P a w K' Q':=by
 refine Oper.wpIn_mono (K:=K) hk ?_
 unfold Oper.wpIn at *
 refine⟨h.1,?_⟩
 have h2:=h.2
 generalize (o.semAt F.round a.eval).run P w=r at *
 cases r with
 |ok x w'=>
  cases x <;> simp only[Oper.uponIn] at h2 ⊢ <;>
   first
    |exact h2
    |exact⟨h2.1,CallsIn.mono h2.2 (fun e w'' he=>by cases e <;> first|exact he|exact hq _ _ _ (by simp) he|(obtain⟨v,hv,hf⟩:=he;exact⟨v,hv,hq _ _ _ (by simp) hf⟩))⟩
    |exact⟨h2.1,RoundIn.mono h2.2 (fun e w'' he=>by cases e <;> first|exact he|exact hq _ _ _ (by simp) he|(obtain⟨v,hv,hf⟩:=he;exact⟨v,hv,hq _ _ _ (by simp) hf⟩))⟩
 |halt x w'=>cases x <;> simp only[Oper.uponIn] at h2 ⊢ <;> first|exact h2|exact hq _ _ _ (by simp) h2
theorem EV {F:Fence} {n:Nat} {P:Program} {aX:Array Oper} {Q Q':Exit->Act->World->Prop} {l2:List Oper} (hn:∀a w,Q' .normal a w->wpListIn F n P aX Q l2 a w) (hq:∀e a w,e≠ .normal->Q' e a w->Q e a w):∀{l1:List Oper} {a:Act} {w:World},wpListIn F n P aX Q' l1 a w->wpListIn F n P aX Q (l1++l2) a w
 |[],a,w,h=>hn a w h
 |o::l1,a,w,h=>by
  simp only[gP,wpListIn] at h ⊢
  split at h
  ·rename_i hw
   rw[aE hw]
   exact aFe h (fun a w h=>EV hn hq h) hq
  ·rename_i hw
   rw[aA hw]
   exact⟨h.1,EV hn hq h.2⟩
theorem aNB {cx:Cx} {aX:Array Oper} {l1 l2:List Oper} {Q:Exit->St->Prop} {s:St} (h:WL cx aX l1 (gK (WL cx aX l2 Q) Q) s):WL cx aX (l1++l2) Q s:=fun a w m=>
 EV (Q':=QQ cx (gK (WL cx aX l2 Q) Q)) (fun a w ⟨s',m',q⟩=>q a w m') (fun e a w he ⟨s',m',q⟩=>⟨s',m',by cases e <;> first|exact absurd rfl he|exact q⟩) (h a w m)
theorem aCZ {n k:Nat} {l:List Oper} (h:gJ n l=true):gJ n (l.take k)=true:=by
 unfold gJ at h ⊢
 rw[eZ] at h ⊢
 exact fun o ho=>h o (zN ho)
theorem aNC {cx:Cx} {aX l:List Oper} {Q:Exit->St->Prop} {s:St} (n:Nat) (fI:gJ cx.n aX=true) (hl:gJ cx.n l=true) (h:oN cx aX.toArray (gK (WL cx aX.toArray (l.drop n) Q) Q) (l.take n) s):WL cx aX.toArray l Q s:=by
 rw[<-uQ n l]
 exact aNB (NQ fI (aCZ hl) h)
theorem QA {cx:Cx} {id:Nat} {aX:List Oper} {Q:Exit->St->Prop} {s:St} (n:Nat) (fI:gJ cx.n aX=true) (h:oN cx aX.toArray (gK (WL cx aX.toArray (aX.drop n) Q) Q) (aX.take n) s):W cx (.region id aX.toArray false) Q s:=
 IZ (aNC n fI fI h)
def Sl (e:TypeId) (sz:Nat) (els:List (List D)) (d:D) (H0 H:aC):Prop:=
 (d=.val (.slice none 0 0)/\els=[]/\H=H0)\/∃c o,d=.os c o sz 0 els.length/\H0 c=none/\H=H0.bH c (.row e o sz els)
theorem Sl.nil (e:TypeId) (sz:Nat) (H:aC):Sl e sz [] (.val (.slice none 0 0)) H H:=.inl ⟨rfl,rfl,rfl⟩
theorem aAx {H:aC} {sz:Nat} {x:D} {els:List (List D)} {K:List (List D)->Prop} (h:mK H sz x (·=els)) (hk:K els):mK H sz x K:=by
 unfold mK at h ⊢
 split at h
 ·exact⟨h.1,h.2▸hk⟩
 ·exact aKB h hk
theorem Sl.WX {P:Program} {t xt e:TypeId} {td xd:Ti} {sz uW:Nat} {zs:List Value} (h1:bQ P t=some td) (VF:td.d=.slice e) (h2:bQ P xt=some xd) (h2':xd.d.kX=true) {ed:TD} (h3:bQ P e=some ⟨ed,sz,uW,some zs⟩) (hzs:zs.length=sz) (hby:uW≠0)
  {els new:List (List D)} {x y:D} {H0 H:aC} {K:D->aC->Prop} (hs:Sl e sz els x H0 H) (hy:mK H sz y (·=new)) (hb:(els.length+new.length) * uW<=140737488355328) (hk:∀d H',Sl e sz (els++new) d H0 H'->K d H'):WX P H t xt x y K:=by
 obtain⟨d0,i0,j0,k0⟩:=td
 simp only at VF
 subst VF
 unfold Go.Proofs.YtfiipaodjpiooaaGreatDoor.WX
 rw[h1,h2]
 simp only
 refine⟨h2',?_⟩
 rw[h3]
 simp only
 refine⟨hzs,hby,aAx hy ?_⟩
 rcases hs with⟨rfl,rfl,rfl⟩|⟨c,o,rfl,hc,rfl⟩
 ·refine⟨by simpa using hb,fun e=>hk _ _ (.inl ⟨rfl,by simp [e],rfl⟩),fun fM b hbn=>hk _ _ (.inr ⟨b,0,by simp,hbn,by simp⟩)⟩
 ·simp only
  refine⟨trivial,hb,?_⟩
  rw[aO]
  simp only
  refine⟨trivial,trivial,trivial,by omega,fun b' o' B7=>hk _ _ (.inr ⟨b',o',by rw[bN],?_,?_⟩)⟩
  ·rwa[wC,tH hc] at B7
  ·rw[wC,tH hc,jB,nC]
theorem HI {x:D} {p:D->aC->Prop}:(∀d A,(A=aC.none/\d=x)->p d A)=p x aC.none:=propext ⟨fun h=>h _ _ ⟨rfl,rfl⟩,fun h d A e=>by rw[e.1,e.2];exact h⟩
theorem ZP {x:D} {y:aC} {p:D->aC->Prop}:(∀d H',(d=x/\H'=y)->p d H')=p x y:=propext ⟨fun h=>h _ _ ⟨rfl,rfl⟩,fun h d A e=>by rw[e.1,e.2];exact h⟩
theorem aCv {cx:Cx} {x y:Code} {Q:Exit->St->Prop} {s:St} (M:St->Prop) (h1:W cx x (gK M (fun _ _=>False)) s) (h2:∀s,M s->W cx y Q s):W cx (.seq x y) Q s:=
 bP (vP h1 fun e s' q=>by cases e <;> first|exact h2 s' q|exact q.elim)
theorem XX {H:aC} {w:World} {b o sz i k:Nat} {ty:TypeId} {els:List (List D)} {el:List D} {v:Value} (hH:iK w H) (hb:H b=some (.row ty o sz els)) (hi:els[i]?=some el)
  (h0:D.is w H.others (.ep b o sz i k) v):D.is w (H.del b).others (.rp (el.drop k)) v:=by
 simp only[D.is] at h0 ⊢
 obtain⟨cs,fr,h1,h2,h3,h4⟩:=hH _ _ hb
 refine⟨b,_,h0,tG _ _,hH.lt hb,?_⟩
 obtain⟨vs,g3,g4⟩:=fA (nM (fH h4 i el hi).2 k)
 exact fD (cK (rP (C7 H b) w) _ g3) g4
def St.jH (s:St) (t:Nat) (b k:Nat) (el:List D):St:=(s.dY (s.H.del b)).put (some t) (.rp (el.drop k))
theorem aCV {cx:Cx} {s:St} {a:Act} {w:World} {t b o sz i k:Nat} {ty:TypeId} {els:List (List D)} {el:List D} (ht:s.fr t=.ep b o sz i k) (hb:s.H b=some (.row ty o sz els)) (hi:els[i]?=some el) (m:dF cx s a w):dF cx (s.jH t b k el) a w:=by
 have m2:=m.less (C7 s.H b)
 refine⟨m2.n,m2.df,fun x=>?_,m2.H,m2.ev⟩
 have ef:(s.jH t b k el).fr x=if x=t then .rp (el.drop k) else s.fr x:=rfl
 rw[ef]
 show D.is w (s.H.del b).others _ _
 by_cases hx:x=t
 ·subst hx
  rw[aE rfl]
  have h0:=m.fr x
  rw[ht] at h0
  exact XX m.H hb hi h0
 ·rw[aA hx]
  exact m2.fr x
theorem cA {cx:Cx} {c:Code} {Q:Exit->St->Prop} {s:St} (t:Nat) {b o sz i k:Nat} {ty:TypeId} {els:List (List D)} {el:List D} (ht:s.fr t=.ep b o sz i k) (hb:s.H b=some (.row ty o sz els)) (hi:els[i]?=some el) (h:W cx c Q (s.jH t b k el)):W cx c Q s:=fun a w m=>h a w (aCV ht hb hi m)
theorem QZ {H:aC} {w:World} {b:Nat} {x y:fK} {o o':Obj} (hH:iK w H) (hb:H b=some x) (ho:w.heap[b]?=some o) (hc:∀cs t fr,o≠ .cells cs t fr) (hy:sZ (w.putObj b o') (H.bH b y) b y):Ev H w (H.bH b y) (w.putObj b o')/\iK (w.putObj b o') (H.bH b y):=by
 have aHR:∀c,c≠b->(w.putObj b o').heap[c]?=w.heap[c]?:=fun c h=>World.putObj_heap_other h
 have lO:Ev H w (H.bH b y) (w.putObj b o'):=pO (by rw[hb];simp) rfl rfl rfl World.putObj_size aHR fun cs t fr h=>by
  rw[ho] at h
  injection h with h
  exact absurd h (hc cs t fr)
 exact⟨lO,mW hH lO aHR hy⟩
theorem FI {w:World} {b:Nat} {o o':Obj} (ho:w.heap[b]?=some o):(w.putObj b o').heap[b]?=some o':=World.putObj_heap_same (tL.1 ho).1
def MY:Obj:=Obj.deferred (some [])
def mk:List Deferred->aC->Prop
 |[],_=>True
 |d::ds,H=>∃D,d={target:=.collected D,args:= #[]}/\H D=some (.obj MY)/\mk ds (H.bH D .hid)
def L8:List Deferred->aC->aC
 |[],H=>H
 |d::ds,H=>match d.target with
  | .collected D=>L8 ds (H.bH D .hid)
  |_=>L8 ds H
theorem dF.aRY {cx:Cx} {s:St} {a:Act} {w:World} (m:dF cx s a w) (ds:List Deferred):dF cx {s with df:=ds} {a with defers:=ds} w:=⟨m.n,rfl,m.fr,m.H,m.ev⟩
theorem aDe {cx:Cx} {fn:Func} {R:Ending->World->Prop}:∀(ds:List Deferred) (s:St) (a:Act) (w:World),dF cx s a w->mk ds s.H->
  (∀a' w',a'.tmps=a.tmps->dF cx {s with H:=L8 ds s.H,df:=[]} a' w'->∃v,(results fn a'.tmps).run cx.P w'=.ok v w'/\R (.returned v) w')->LeavesInM (FR none) 9 cx.P fn a.tmps R ds .returning w
 |[],s,a,w,m,_,h=>by
  obtain⟨v,h1,h2⟩:=h {a with defers:=[]} w rfl (m.aRY [])
  exact⟨v,h1,h2⟩
 |d::ds,s,a,w,m,hm,h=>by
  obtain⟨D,rfl,hD,hm⟩:=hm
  have LY:w.heap[D]?=some MY:=m.H D _ hD
  obtain⟨lO,fI⟩:=QZ (o':=.deferred none) (y:=.hid) m.H hD LY (fun _ _ _ h=>by cases h) (by
   show D<(w.putObj D (.deferred none)).heap.size
   rw[World.putObj_size]
   exact(tL.1 LY).1)
  refine⟨by simp,.inl ⟨D,_,rfl,run_takeDeferred LY,?_⟩⟩
  exact aDe ds (s.dY (s.H.bH D .hid)) a _ (m.go lO fI) hm h
theorem xR {P:Program} {f:FuncId} {fn:Func} {c:Code} {ds:List D} {H:aC} {K:D->aC->Prop} (N:Nat) (rs:List ResultVar) (hf:P.funcs[f]?=some fn) (x5:(fn.name== "runtime.NumGoroutine")=false) (hb:fn.body=some c) (hN:fn.ntmps=N) (OZ:fn.results=rs.toArray) (hl:ds.length<=N)
  (h:∀w0 (g0:DW w0 H) (Q:Exit->St->Prop),(∀e s,e=.normal\/e=.ret->mk s.df s.H->BK P {s with H:=L8 s.df s.H,df:=[]} rs (fun d=>∃H',H'.le (L8 s.df s.H)/\K d H')->Q e s)->W ⟨P,none,N,H,w0,g0⟩ c Q (St.init ds H)):bE P f ds H K:=And.intro (uH hf x5 hb) fun w vs zD hH hG=>by
 refine vA (ro:=none) (n:=9) (callsIn_of_wp_marks hf hb trivial ?_ rfl)
 have fJ:=lA zD
 have m:dF ⟨P,none,N,H,w,hG⟩ (St.init ds H) {tmps:=vs.toArray++Array.replicate (fn.ntmps - vs.toArray.size) undef,defers:=[]} w:=by
  refine⟨by simp;omega,rfl,fun t=>?_,hH,fT _ _⟩
  simp only[St.init]
  rcases oC t ds.length with kL|GM
  ·obtain⟨v,h1,h2⟩:=nL zD t ds[t] (by simp [kL])
   have e1:ds.getD t (.val undef)=ds[t]:=by simp [List.getD,kL]
   have e2:(vs.toArray++Array.replicate (fn.ntmps - vs.toArray.size) undef).getD t undef=v:=by
    rw[v8,FW (by simp;omega)]
    simp [h1]
   rw[e1,e2];exact h2
  ·have e1:ds.getD t (.val undef)=.val undef:=by simp [List.getD,GM]
   rw[e1]
   simp only[D.is]
   rw[v8,FV (by simp;omega),KL]
   split <;> rfl
 refine wpIn_mono (h w hG (fun e s=>(e=.normal\/e=.ret)/\mk s.df s.H/\aAA ⟨P,none,N,H,w,hG⟩ fn {s with H:=L8 s.df s.H,df:=[]} K) (fun e s he hm hr=>⟨he,hm,?_⟩) _ _ m) fun e a' w' ⟨s',m',q⟩=>?_
 ·have hq:aEq ⟨P,none,N,H,w,hG⟩ fn K .normal {s with H:=L8 s.df s.H,df:=[]}:=ED (.inl rfl) rfl (by rw[OZ];simpa using hr)
  exact hq.2
 ·obtain⟨he,hm,fG⟩:=q
  have key:LeavesInM (FR none) 9 P fn a'.tmps (fun e w'=>∃v d H',e=.returned v/\D.is w' H'.others d v/\iK w' H'/\Ev H w H' w'/\K d H') a'.defers .returning w':=by
   rw[m'.df]
   refine aDe s'.df s' a' w' m' hm fun a2 w2 ht m2=>?_
   obtain⟨v,d,H',h1,h2,h3,h4⟩:=fG a2 w2 m2
   have m3:=m2.less h3
   exact⟨v,h1,v,d,H',rfl,h2,m3.H,m3.ev,h4⟩
  rcases he with rfl|rfl
  ·exact key
  ·exact key
theorem SZ {ro:Option Nat} {n:Nat} (m:Nat) {P:Program} {c:Code} {Q:Exit->Act->World->Prop} {a:Act} {w:World} (h:c.wpIn (FR ro) m P Q a w):c.wpIn (FR ro) n P Q a w:=
 fun b k cs h1 h2 _=>h b k cs h1 h2 (fun _ h=>by simp [FR,Fence.wide] at h)
def yD (l:Nat):D:=.val (.func (.yield l) #[] #[])
def YCG {α:Type} (P:Program) (l:Nat) (H0:aC) (w0:World) (J Jx:List α->aC->Prop) (nR:α->List D) (Pf:List α->Prop):Prop:=
 ∀(pre:List α) (x:α) (Hc:aC) (w:World) (vs:List Value),Pf (pre++[x])->J pre Hc->iK w Hc->Ev H0 w0 Hc w->aW w Hc.others (nR x) vs->
  YieldAt (FR none) 8 P l vs.toArray w fun e w'=>∃S7,iK w' S7/\Ev Hc w S7 w'/\(∀b o,H0 b=none->Hc b=some (.obj o)->S7 b=some (.obj o))/\((e=.returned (.bool true)/\J (pre++[x]) S7)\/(e=.returned (.bool false)/\Jx (pre++[x]) S7))
def YC {α:Type} (P:Program) (l:Nat) (H0:aC) (w0:World) (J Jx:List α->aC->Prop) (nR:α->List D) (xs:List α):Prop:=YCG P l H0 w0 J Jx nR (·<+:xs)
def NS {α:Type} (H0:aC) (J:List α->aC->Prop):Prop:=∀pre H b o,H0 b=none->(∀z,H b=some z->∃o',z=.obj o')->J pre H->J pre (H.bH b (.obj o))
def AN {α:Type} (P:Program) (gf:FuncId) (eL:List D) (nR:α->List D) (Pf Fn:List α->Prop) (ok kp:aC->Prop):Prop:=
 aFm P gf/\∀(l:Nat) (J Jx:List α->aC->Prop) (H:aC) (w0:World) (vs:List Value),ok H->iK w0 H->DW w0 H->J [] H->NS H J->NS H Jx->(∀pre Hc,J pre Hc->kp Hc)->YCG P l H w0 J Jx nR Pf->aW w0 H.others (yD l::eL) vs->
  Calls P gf vs.toArray w0 fun e w'=>∃v H',e=.returned v/\iK w' H'/\Ev H w0 H' w'/\((∃ys,Fn ys/\J ys H')\/∃pre,Jx pre H')
def Z8 {α:Type} (P:Program) (gf:FuncId) (eL:List D) (nR:α->List D) (xs:List α) (ok:aC->Prop):Prop:=AN P gf eL nR (·<+:xs) (·=xs) ok fun _=>True
theorem D1 {α:Type} {cx:Cx} {o:Oper} {K:St->Prop} {s:St} {c:Call} {f:Operand} {l:Nat} {J Jx:List α->aC->Prop} {nR:α->List D} {Pf:List α->Prop} (pre:List α) (x:α)
  (AB:o.op=.call c) (X3:c.callee=.value f) (hf:s.ev f=yD l) (hd:DE cx.n o.dst) (hY:YCG cx.P l cx.H0 cx.w0 J Jx nR Pf) (hx:Pf (pre++[x])) (hJ:J pre s.H) (ha:s.G3 c.args=nR x)
  (ht:∀H',J (pre++[x]) H'->K ((s.dY H').put o.dst (.val (.bool true)))) (hn:∀H',Jx (pre++[x]) H'->K ((s.dY H').put o.dst (.val (.bool false)))):WO cx o K s:=fun a w m=>by
 refine⟨oH,?_⟩
 rw[MG (by simp [AB])]
 have hfv:=m.xS f
 rw[hf] at hfv
 simp only[yD,D.is] at hfv
 have xX:=m.aEx c.args
 rw[ha] at xX
 obtain⟨fn,tmps,assign,body,hy,hR⟩:=hY pre x s.H w _ hx hJ m.H m.ev xX
 have yP:(execOp a.eval o).run cx.P w=.ok (.round l fn tmps assign body) w:=by
  simp only[execOp,AB,resolve,X3,hfv,Deferred.ofValue,Sem.run_bind,Sem.run_pure,Result.andThen,invoke]
  have e:(c.args.map a.eval).toList.toArray=c.args.map a.eval:=Array.toArray_toList
  rw[e] at hy
  simpa using hy
 rw[yP,Oper.uponIn_round]
 refine⟨fun hd0=>(by cases hd0),?_⟩
 have hR2:RoundIn (FR cx.ro) 8 cx.P l fn tmps assign body w _:=hR
 refine hR2.mono fun e w' ⟨H',h1,h2,_,h3⟩=>?_
 rcases h3 with⟨rfl,h3⟩|⟨rfl,h3⟩
 ·exact⟨_,(m.go h2 h1).put (j8 hd) (by simp only[D.is]),ht H' h3⟩
 ·exact⟨_,(m.go h2 h1).put (j8 hd) (by simp only[D.is]),hn H' h3⟩
def lU (H H':aC):Prop:=∀b o,H b=some (.obj o)->H' b=some (.obj o)
def SB (H H':aC):Prop:=∀b x,H b=some x->(∀o,x≠ .obj o)->H' b=some x
theorem xE (H:aC):lU H H:=fun _ _ h=>h
theorem lU.trans {H H' gI:aC} (h:lU H H') (h':lU H' gI):lU H gI:=fun b o e=>h' b o (h b o e)
theorem lU.new {H H':aC} {b:Nat} {x:fK} (h:lU H H') (hb:H' b=none):lU H (H'.bH b x):=fun c o e=>by
 have:=h c o e
 rw[aN (fun hc=>by rw[hc,hb] at this;cases this)];exact this
theorem lU.row {H H':aC} {b:Nat} {x y:fK} (h:lU H H') (hb:H' b=some y) (hy:∀o,y≠ .obj o):lU H (H'.bH b x):=fun c o e=>by
 have h2:=h c o e
 rw[aN (fun hc=>by rw[hc,hb] at h2;injection h2 with h2;exact hy o h2)];exact h2
theorem lU.del {H H':aC} {b:Nat} {y:fK} (h:lU H H') (hb:H' b=some y) (hy:∀o,y≠ .obj o):lU H (H'.del b):=fun c o e=>by
 have h2:=h c o e
 rw[bS (fun hc=>by rw[hc,hb] at h2;injection h2 with h2;exact hy o h2)];exact h2
theorem aL6 {H:aC} {b:Nat} {x:fK} (hb:H b=none):SB H (H.bH b x):=fun c y e _=>by
 rw[aN (fun hc=>by rw[hc,hb] at e;cases e)];exact e
theorem s7 {H:aC} {b:Nat} {o:Obj} {x:fK} (hb:H b=some (.obj o)):SB H (H.bH b x):=fun c y e hy=>by
 rw[aN (fun hc=>by rw[hc,hb] at e;injection e with e;exact hy o e.symm)];exact e
theorem SB.trans {H H' gI:aC} (h:SB H H') (h':SB H' gI):SB H gI:=fun b x e hx=>h' b x (h b x e hx) hx
theorem s6 {H:aC} {b:Nat} {x:fK} (hz:∀z,H b=some z->∃o,z=.obj o):SB H (H.bH b x):=by
 cases e:H b with
 |none=>exact aL6 e
 |some z=>obtain⟨o,rfl⟩:=hz z e;exact s7 e
def rst (s:St) (ps:List Nat) (ds:List D) (H:aC):St:=⟨(ps.zip ds).foldl (fun f p=>fun x=>if x=p.1 then p.2 else f x) s.fr,H,[]⟩
theorem Q4 {w:World} {S:Nat->Prop} {n:Nat}:∀(ps:List Nat) (ds:List D) (vs:List Value) (f:Nat->D) (t:Array Value),aW w S ds vs->(∀p∈ps,p<n)->t.size=n->(∀x,D.is w S (f x) (t.getD x undef))->
  (((ps.zip vs).foldl (fun t p=>t.setIfInBounds p.1 p.2) t).size=n/\∀x,D.is w S ((ps.zip ds).foldl (fun f p=>fun x=>if x=p.1 then p.2 else f x) f x) (((ps.zip vs).foldl (fun t p=>t.setIfInBounds p.1 p.2) t).getD x undef))
 |[],ds,vs,f,t,_,_,hn,hf=>by
  simp only[List.zip_nil_left,List.foldl_nil]
  exact⟨hn,hf⟩
 |p::ps,[],vs,f,t,hv,_,hn,hf=>by
  simp only[aW] at hv
  subst hv
  simp only[List.zip_nil_right,List.foldl_nil]
  exact⟨hn,hf⟩
 |p::ps,d::ds,vs,f,t,hv,hp,hn,hf=>by
  simp only[aW] at hv
  obtain⟨u,us,rfl,h1,h2⟩:=hv
  simp only[List.zip_cons_cons,KX]
  refine Q4 ps ds us _ _ h2 (fun q hq=>hp q (gY _ hq)) (by simpa using hn) fun x=>?_
  have kL:p<t.size:=by rw[hn];exact hp p AK
  rw[AZ _ _ _ _ _ kL]
  by_cases hx:x=p
  ·rw[aE hx,aE hx];exact h1
  ·rw[aA hx,aA hx];exact hf x
def uC (B:Nat->Prop) (H H':aC):Prop:=∀b o,B b->H b=some (.obj o)->H' b=some (.obj o)
def aL7 (B:Nat->Prop) {α:Type} (I:List α->aC->Prop) (Ix:Exit->List α->aC->Prop) (ys:List α) (Hb:aC):Exit->St->Prop
 | .normal,s=>s.df=[]/\uC B Hb s.H/\I ys s.H
 | .ret,s=>s.df=[]/\uC B Hb s.H/\Ix .ret ys s.H
 | .exit id,s=>s.df=[]/\uC B Hb s.H/\Ix (.exit id) ys s.H
 | .goto t,s=>s.df=[]/\uC B Hb s.H/\Ix (.goto t) ys s.H
 |_,_=>False
def aCa {α:Type} (I:List α->aC->Prop) (Ix:Exit->List α->aC->Prop) (ys:List α) (Hb:aC):Exit->St->Prop
 | .normal,s=>s.df=[]/\lU Hb s.H/\I ys s.H
 | .ret,s=>s.df=[]/\lU Hb s.H/\Ix .ret ys s.H
 | .exit id,s=>s.df=[]/\lU Hb s.H/\Ix (.exit id) ys s.H
 | .goto t,s=>s.df=[]/\lU Hb s.H/\Ix (.goto t) ys s.H
 |_,_=>False
def YL:Exit->Option Code
 | .ret=>some .ret
 | .exit id=>some (.exit id)
 | .goto t=>some (.goto t)
 |_=>none
def xO (D:Nat):Deferred:={target:=.collected D,args:= #[]}
theorem lC {H H':aC} {b:Nat} (h:H.le H') (hb:H' b=none):H b=none:=by
 cases e:H b with
 |none=>rfl
 |some x=>rw[h _ _ e] at hb;cases hb
theorem sS {α : Type} {cx : Cx} {s : St} {g : Operand} {ps : List Nat} {assign body : Code} {Q : Exit -> St -> Prop} (hro : cx.ro = none) {gf : FuncId} {eL : List D} {nR : α -> List D} {Pf Fn : List α -> Prop} {ok kp : aC -> Prop}
    (it : AN cx.P gf eL nR Pf Fn ok kp) (hg : s.ev g = .fn gf eL) (fI : ∀ H', s.H.le H' -> ok H') (hps : ∀ p ∈ ps, p < cx.n) (aOF : ∀ x, (nR x).length = ps.length)
    (B : Nat -> Prop) (hB : ∀ b, s.H b = none -> B b) (I : List α -> aC -> Prop) (G6 : ∀ pre Hc, I pre Hc -> uC B s.H Hc -> kp Hc) (Ix : Exit -> List α -> aC -> Prop) (hI : NS s.H I) (hIx : ∀ e, NS s.H (Ix e)) (h0 : I [] s.H)
    (aCK : ∀ (l : Nat) (w1 : World) (pre : List α) (x : α) (Hc : aC) (o : Obj) (g1 : DW w1 Hc), B l -> Pf (pre ++ [x]) -> I pre Hc -> uC B s.H Hc -> Hc l = some (.obj o) -> W ⟨cx.P, some l, cx.n, Hc, w1, g1⟩ assign (gK (fun s1 => s1.df = [] /\ uC B Hc s1.H /\ ∀ w2 y (g2 : DW w2 (s1.H.bH l (.obj y))), Ev cx.H0 cx.w0 (s1.H.bH l (.obj y)) w2 -> W ⟨cx.P, some l, cx.n, s1.H.bH l (.obj y), w2, g2⟩ body (aL7 B I Ix (pre ++ [x]) (s1.H.bH l (.obj y))) (s1.dY (s1.H.bH l (.obj y)))) (fun _ _ => False)) (rst s ps (nR x) Hc))
    (aHD : ∀ (ys : List α) (Hc : aC) (D : Nat), Fn ys -> I ys Hc -> uC B s.H Hc -> Hc D = some (.obj MY) -> s.H D = none -> Q .normal { s with H := Hc, df := xO D :: s.df })
    (aHT : ∀ (e : Exit) (c : Code) (pre : List α) (Hc : aC) (D : Nat), YL e = some c -> Ix e pre Hc -> uC B s.H Hc -> Hc D = some (.obj MY) -> s.H D = none -> Q e { s with H := Hc, df := xO D :: s.df }) :
    W cx (.rangeFunc g ⟨ps⟩ assign body) Q s := fun a w m => by
  rw [hro]
  refine wpIn_rangeFunc ?_
  intro fn EJ
  have X8 := m.xS g
  rw [hg] at X8
  simp only [D.is] at X8
  obtain ⟨lb, X8, aGx⟩ := X8
  obtain ⟨rec, aCJ⟩ : ∃ rec : LoopState -> Option Code -> Loop, rec = fun st pe => { state := st, pending := pe, fn, tmps := a.tmps, params := ⟨ps⟩, assign, body, defers := w.heap.size } := ⟨_, rfl⟩
  obtain ⟨W1, hW1⟩ : ∃ W1, (w.alloc (.deferred (some []))).alloc (.loop (rec .ready none)) = W1 := ⟨_, rfl⟩
  obtain ⟨l, hl⟩ : ∃ l, l = w.heap.size + 1 := ⟨_, rfl⟩
  have aQv : (w.alloc (.deferred (some []))).heap.size = l := by rw [hl]; exact World.size_alloc _ _
  have NZ := jF m.H
  have BT : s.H l = none := by
    cases e : s.H l with
    | none => rfl
    | some x => exact absurd (m.H.lt e) (by omega)
  have aQk : iK (w.alloc (.deferred (some []))) (s.H.bH w.heap.size (.obj MY)) := m.H.alloc (heap_alloc_new w _)
  have aKY := jZ (.deferred (some [])) (.obj MY) m.H
  have aQl : iK W1 ((s.H.bH w.heap.size (.obj MY)).bH l (.obj (.loop (rec .ready none)))) := by
    rw [<- hW1, <- aQv]
    exact aQk.alloc (heap_alloc_new (w.alloc (.deferred (some []))) _)
  have HN : Ev (s.H.bH w.heap.size (.obj MY)) (w.alloc (.deferred (some []))) ((s.H.bH w.heap.size (.obj MY)).bH l (.obj (.loop (rec .ready none)))) W1 := by
    rw [<- hW1, <- aQv]
    exact jZ _ _ aQk
  obtain ⟨Hc0, aGp⟩ : ∃ H, H = (s.H.bH w.heap.size (.obj MY)).bH l (.obj (.loop (rec .ready none))) := ⟨_, rfl⟩
  rw [<- aGp] at aQl HN
  have aAa : Ev s.H w Hc0 W1 := aKY.trans HN
  have hDl : w.heap.size ≠ l := by omega
  have rT : s.H.le Hc0 := by
    rw [aGp]
    exact o8 (o8 (aG _) NZ) (by rw [aN (Ne.symm hDl)]; exact BT)
  have hD0 : Hc0 w.heap.size = some (.obj MY) := by rw [aGp, aN hDl, aO]
  have YA : Hc0 l = some (.obj (.loop (rec .ready none))) := by rw [aGp, aO]
  refine ⟨l, [xO w.heap.size], W1, { target := .fn (.func gf) ⟨lb⟩, args := #[.func (.yield l) #[] #[]] }, W1, gf, #[.func (.yield l) #[] #[]] ++ ⟨lb⟩, W1, ?_, ?_, ?_, ?_, fun h => (by cases h), ?_⟩
  · rw [<- hW1, aCJ, hl]; exact run_enterLoop_outer _ _ _ _ _
  · simp only [resolve, X8]
    simp [go_sem]
  · intro f' hf'; trivial
  · have eg : ∀ args w, (callFunc gf args).run cx.P w = .ok (.enter gf args) w := it.1
    simp [invoke, go_sem, eg]
  · have eP := it.2 l (fun pre Hc => I pre Hc /\ uC B s.H Hc /\ Hc w.heap.size = some (.obj MY) /\ Hc l = some (.obj (.loop (rec .ready none))))
      (fun pre Hc => ∃ e c, YL e = some c /\ Ix e pre Hc /\ uC B s.H Hc /\ Hc w.heap.size = some (.obj MY) /\ Hc l = some (.obj (.loop (rec .done (some c))))) Hc0 W1 (.func (.yield l) #[] #[] :: lb) (fI _ rT) aQl (m.gok.ev aAa)
      ⟨by rw [aGp]; exact hI _ _ _ _ BT (fun z h => by rw [aN (Ne.symm hDl), BT] at h; cases h) (hI _ _ _ _ NZ (fun z h => by rw [NZ] at h; cases h) h0), fun b o _ h => rT _ _ h, hD0, YA⟩
      (fun pre H b o hb hz ⟨h1, h2, h3, h4⟩ => ⟨hI _ _ _ _ (lC rT hb) hz h1, fun c o' hbc h => by
        rw [aN (fun hc => by rw [hc] at h; have := rT _ _ h; rw [hb] at this; cases this)]; exact h2 c o' hbc h, by
        rw [aN (fun hc => by rw [<- hc, hD0] at hb; cases hb)]; exact h3, by
        rw [aN (fun hc => by rw [<- hc, YA] at hb; cases hb)]; exact h4⟩)
      (fun pre H b o hb hz ⟨e, c0, hj, h1, h2, h3, h4⟩ => ⟨e, c0, hj, hIx _ _ _ _ _ (lC rT hb) hz h1, fun c o' hbc h => by
        rw [aN (fun hc => by rw [hc] at h; have := rT _ _ h; rw [hb] at this; cases this)]; exact h2 c o' hbc h, by
        rw [aN (fun hc => by rw [<- hc, hD0] at hb; cases hb)]; exact h3, by
        rw [aN (fun hc => by rw [<- hc, YA] at hb; cases hb)]; exact h4⟩) (fun pre Hc h => G6 pre Hc h.1 h.2.1) ?_ (by
        simp only [aW]
        exact ⟨_, _, rfl, by simp only [yD, D.is], lW aAa.kept _ aGx⟩)
    · have e1 : #[Value.func (.yield l) #[] #[]] ++ (⟨lb⟩ : Array Value) = (Value.func (.yield l) #[] #[] :: lb).toArray := by simp
      rw [e1]
      refine (QG (ro := none) (n := 8) eP).mono ?_
      rintro e w3 ⟨v, H3, rfl, aQm, aYV, hj⟩
      have fin : ∀ (st : LoopState) (pe : Option Code), st ≠ .busy -> H3 l = some (.obj (.loop (rec st pe))) -> uC B s.H H3 -> H3 w.heap.size = some (.obj MY) ->
          ∃ w4, (Instr.endLoop l).run cx.P w3 = .ok pe w4 /\ ∃ o4, dF cx { s with H := H3.bH l (.obj o4), df := xO w.heap.size :: s.df } { a with defers := [xO w.heap.size] ++ a.defers } w4 /\ uC B s.H (H3.bH l (.obj o4)) /\ (H3.bH l (.obj o4)) w.heap.size = some (.obj MY) := by
        intro st pe nI hl3 kN hD3
        have LY : w3.heap[l]? = some (.loop (rec st pe)) := aQm l _ hl3
        have RC := run_endLoop (P := cx.P) LY (by rw [aCJ]; exact nI)
        obtain ⟨aYW, aYu⟩ := QZ (o' := .loop { rec st pe with state := .exhausted }) (y := .obj (.loop { rec st pe with state := .exhausted })) aQm hl3 LY (fun _ _ _ h => by cases h) (FI LY)
        refine ⟨w3.putObj l (.loop { rec st pe with state := .exhausted }), by rw [aCJ] at RC ⊢; exact RC, .loop { rec st pe with state := .exhausted }, ?_, fun b o M9 h => ?_, by rw [aN hDl]; exact hD3⟩
        · have m4 := m.go ((aAa.trans aYV).trans aYW) aYu
          exact ⟨m4.n, by simp only [List.singleton_append, m.df], m4.fr, m4.H, m4.ev⟩
        · have := kN b o M9 h
          rw [aN (fun hb => by rw [hb, BT] at h; cases h)]
          exact this
      rcases hj with ⟨ys, EJ, hi, kN, hD3, hl3⟩ | ⟨pre, e, c, hjc, hi, kN, hD3, hl3⟩
      · obtain ⟨w4, h4, o4, m4, aHP, hD4⟩ := fin _ _ (by simp) hl3 kN hD3
        exact ⟨none, w4, h4, _, m4, aHD _ _ _ EJ (hI _ _ _ _ BT (fun z h => ⟨_, by rw [hl3] at h; injection h with h; exact h.symm⟩) hi) aHP hD4 NZ⟩
      · obtain ⟨w4, h4, o4, m4, aHP, hD4⟩ := fin _ _ (by simp) hl3 kN hD3
        have hq := aHT e c pre _ _ hjc (hIx _ _ _ _ _ BT (fun z h => ⟨_, by rw [hl3] at h; injection h with h; exact h.symm⟩) hi) aHP hD4 NZ
        refine ⟨some c, w4, h4, ?_⟩
        cases e <;> simp only [YL] at hjc <;> first
          | (cases hjc; done)
          | (injection hjc with hjc
             subst hjc
             first
               | exact wpIn_exit ⟨_, m4, hq⟩
               | exact wpIn_goto ⟨_, m4, hq⟩
               | exact wpIn_ret ⟨_, m4, hq⟩)
    ·
      rintro pre x Hc w5 vs lP ⟨hi, kN, hD5, hl5⟩ aQn aOG zD
      have LY : w5.heap[l]? = some (.loop (rec .ready none)) := aQn l _ hl5
      have fJ := lA zD
      have hy := run_yield (P := cx.P) (args := vs.toArray) LY (by rw [aCJ]; simp [fJ, aOF])
      rw [aCJ] at hy
      refine ⟨fn, _, assign, body, hy, roundIn_of_wpIn EJ ?_⟩
      have Z5 : ∀ t, D.is w5 Hc.others (s.fr t) (a.tmps.getD t undef) := fun t => qD (aAa.trans aOG).kept _ (m.fr t)
      obtain ⟨g1, g2⟩ := Q4 ps (nR x) vs s.fr a.tmps zD hps m.n Z5
      have K6 : ((⟨ps⟩ : Array Nat).zip vs.toArray).foldl (fun t (p : Nat × Value) => t.setIfInBounds p.1 p.2) a.tmps = (ps.zip vs).foldl (fun t p => t.setIfInBounds p.1 p.2) a.tmps := by
        rw [<- Array.foldl_toList, Array.toList_zip]
      have g5 : DW w5 Hc := (m.gok.ev aAa).ev aOG
      have m5 : dF ⟨cx.P, some l, cx.n, Hc, w5, g5⟩ (rst s ps (nR x) Hc) { tmps := ((⟨ps⟩ : Array Nat).zip vs.toArray).foldl (fun t (p : Nat × Value) => t.setIfInBounds p.1 p.2) a.tmps, defers := [] } w5 := by
        rw [K6]
        exact ⟨g1, rfl, g2, aQn, fT _ _⟩
      have hW := aCK l w5 pre x Hc _ g5 (hB _ BT) lP hi kN hl5 _ _ m5
      refine wpIn_mono (SZ 9 hW) ?_
      rintro e1 a1 w6 ⟨s1, m1, q1⟩
      cases e1 <;> first
        | exact q1.elim
        | skip
      obtain ⟨pP, LX, aQS⟩ := q1
      have hl1 : s1.H l = some (.obj (.loop (rec .ready none))) := LX _ _ (hB _ BT) hl5
      have aHQ : w6.heap[l]? = some (.loop (rec .ready none)) := m1.H l _ hl1
      obtain ⟨y1, hy1⟩ : ∃ y, y = Obj.loop { rec .ready none with state := .busy } := ⟨_, rfl⟩
      obtain ⟨aKZ, aYv⟩ := QZ (o' := y1) (y := .obj y1) m1.H hl1 aHQ (fun _ _ _ h => by cases h) (FI aHQ)
      refine ⟨w6.putObj l y1, by rw [hy1]; exact run_beginRound aHQ (by rw [aCJ]), ?_⟩
      have g6 : DW (w6.putObj l y1) (s1.H.bH l (.obj y1)) := m1.gok.ev aKZ
      have m6 : dF ⟨cx.P, some l, cx.n, s1.H.bH l (.obj y1), w6.putObj l y1, g6⟩ (s1.dY (s1.H.bH l (.obj y1))) a1 (w6.putObj l y1) := by
        have := m1.go aKZ aYv
        exact ⟨this.n, this.df, this.fr, this.H, fT _ _⟩
      refine wpIn_mono (SZ 9 (aQS (w6.putObj l y1) y1 g6 ((((m.ev.trans aAa).trans aOG).trans m1.ev).trans aKZ) _ _ m6)) ?_
      rintro e2 a2 w7 ⟨s2, m2, q2⟩
      have key : ∀ (OF : Option Code), uC B (s1.H.bH l (.obj y1)) s2.H -> ∃ v w', (Instr.endRound l OF).run cx.P w7 = .ok v w' /\ v = .bool OF.isNone /\
          ∃ S7, iK w' S7 /\ Ev Hc w5 S7 w' /\ (∀ b o, Hc0 b = none -> Hc b = some (.obj o) -> S7 b = some (.obj o)) /\ (∀ p, I p s2.H -> I p S7) /\ (∀ e p, Ix e p s2.H -> Ix e p S7) /\ uC B s.H S7 /\ S7 w.heap.size = some (.obj MY) /\ S7 l = some (.obj (.loop (rec (if OF.isNone then .ready else .done) OF))) := by
        intro OF vF
        have xZ : s2.H l = some (.obj y1) := vF _ _ (hB _ BT) (aO _ _ _)
        have aD3 : w7.heap[l]? = some y1 := m2.H l _ xZ
        rw [hy1] at aD3
        have RC := run_endRound (P := cx.P) OF aD3
        obtain ⟨aYX, aYw⟩ := QZ (o' := Obj.loop (rec (if OF.isNone then .ready else .done) OF)) (y := .obj (Obj.loop (rec (if OF.isNone then .ready else .done) OF))) m2.H xZ aD3 (fun _ _ _ h => by cases h) (FI aD3)
        have aYp : uC B s.H (s2.H.bH l (.obj (Obj.loop (rec (if OF.isNone then .ready else .done) OF)))) := fun b o M9 h => by
          have l4 : b ≠ l := fun hb => by rw [hb, BT] at h; cases h
          rw [aN l4]
          refine vF b o M9 ?_
          rw [aN l4]
          exact LX b o M9 (kN b o M9 h)
        refine ⟨_, _, by rw [aCJ] at RC ⊢; exact RC, rfl, _, aYw, ((m1.ev.trans aKZ).trans m2.ev).trans aYX, fun b o wN DQ => by
          have l4 : b ≠ l := fun hb => by rw [hb, YA] at wN; cases wN
          rw [aN l4]
          have M9 := hB b (lC rT wN)
          refine vF b o M9 ?_
          rw [aN l4]
          exact LX b o M9 DQ, fun p => hI _ _ _ _ BT fun z h => ⟨_, by rw [xZ] at h; injection h with h; exact h.symm⟩, fun e p => hIx _ _ _ _ _ BT fun z h => ⟨_, by rw [xZ] at h; injection h with h; exact h.symm⟩, aYp, ?_, aO _ _ _⟩
        rw [aN hDl]
        refine vF _ _ (hB _ NZ) ?_
        rw [aN hDl]
        exact LX _ _ (hB _ NZ) hD5
      cases e2 with
      | normal =>
        obtain ⟨_, vF, EM⟩ := q2
        obtain ⟨v, w', h1, rfl, S7, h2, h3, h8, h4, h9, h5, h6, h7⟩ := key none vF
        exact ⟨_, w', h1, S7, h2, h3, h8, .inl ⟨rfl, h4 _ EM, h5, h6, h7⟩⟩
      | ret =>
        obtain ⟨_, vF, EM⟩ := q2
        obtain ⟨v, w', h1, rfl, S7, h2, h3, h8, h4, h9, h5, h6, h7⟩ := key (some .ret) vF
        exact ⟨_, w', h1, S7, h2, h3, h8, .inr ⟨rfl, .ret, _, rfl, h9 _ _ EM, h5, h6, h7⟩⟩
      | exit id =>
        obtain ⟨_, vF, EM⟩ := q2
        obtain ⟨v, w', h1, rfl, S7, h2, h3, h8, h4, h9, h5, h6, h7⟩ := key (some (.exit id)) vF
        exact ⟨_, w', h1, S7, h2, h3, h8, .inr ⟨rfl, .exit id, _, rfl, h9 _ _ EM, h5, h6, h7⟩⟩
      | goto t =>
        obtain ⟨_, vF, EM⟩ := q2
        obtain ⟨v, w', h1, rfl, S7, h2, h3, h8, h4, h9, h5, h6, h7⟩ := key (some (.goto t)) vF
        exact ⟨_, w', h1, S7, h2, h3, h8, .inr ⟨rfl, .goto t, _, rfl, h9 _ _ EM, h5, h6, h7⟩⟩
      | panic ch => exact q2.elim
      | outgrown => exact q2.elim
theorem yW {α:Type} {cx:Cx} {s:St} {g:Operand} {ps:List Nat} {assign body:Code} {Q:Exit->St->Prop} (hro:cx.ro=none) {gf:FuncId} {eL:List D} {nR:α->List D} {xs:List α} {ok:aC->Prop}
  (it:Z8 cx.P gf eL nR xs ok) (hg:s.ev g=.fn gf eL) (fI:∀H',s.H.le H'->ok H') (hps:∀p∈ps,p<cx.n) (aOF:∀x,(nR x).length=ps.length)
  (I:List α->aC->Prop) (Ix:Exit->List α->aC->Prop) (hI:∀pre H H',SB H H'->I pre H->I pre H') (hIx:∀e pre H H',SB H H'->Ix e pre H->Ix e pre H') (h0:I [] s.H)
  (aCK:∀(l:Nat) (w1:World) (pre:List α) (x:α) (Hc:aC) (o:Obj) (g1:DW w1 Hc),(pre++[x])<+:xs->I pre Hc->lU s.H Hc->Hc l=some (.obj o)->W ⟨cx.P,some l,cx.n,Hc,w1,g1⟩ assign (gK (fun s1=>s1.df=[]/\lU Hc s1.H/\∀w2 y (g2:DW w2 (s1.H.bH l (.obj y))),W ⟨cx.P,some l,cx.n,s1.H.bH l (.obj y),w2,g2⟩ body (aCa I Ix (pre++[x]) (s1.H.bH l (.obj y))) (s1.dY (s1.H.bH l (.obj y)))) (fun _ _=>False)) (rst s ps (nR x) Hc))
  (aHD:∀(Hc:aC) (D:Nat),I xs Hc->lU s.H Hc->Hc D=some (.obj MY)->s.H D=none->Q .normal {s with H:=Hc,df:=xO D::s.df})
  (aHT:∀(e:Exit) (c:Code) (pre:List α) (Hc:aC) (D:Nat),YL e=some c->Ix e pre Hc->lU s.H Hc->Hc D=some (.obj MY)->s.H D=none->Q e {s with H:=Hc,df:=xO D::s.df}):
  W cx (.rangeFunc g ⟨ps⟩ assign body) Q s:=sS hro it hg fI hps aOF (fun _=>True) (fun _ _=>trivial) I (fun _ _ _ _=>trivial) Ix (fun pre H b o _ hz h=>hI pre _ _ (s6 hz) h) (fun e pre H b o _ hz h=>hIx e pre _ _ (s6 hz) h) h0 (fun l w1 pre x Hc o g1 _ h1 h2 h3 h4=>vP (aCK l w1 pre x Hc o g1 h1 h2 (fun b o=>h3 b o trivial) h4) fun e s1 q=>by cases e <;> first|exact⟨q.1,fun b o _=>q.2.1 b o,fun w2 y g2 _=>vP (q.2.2 w2 y g2) fun e s q=>by cases e <;> first|exact⟨q.1,fun b o _=>q.2.1 b o,q.2.2⟩|exact q⟩|exact q) (fun ys Hc D h0 h1 h2=>by subst h0;exact aHD Hc D h1 fun b o=>h2 b o trivial) (fun e c pre Hc D h0 h1 h2=>aHT e c pre Hc D h0 h1 fun b o=>h2 b o trivial)
theorem JT {α:Type} {P:Program} {f:FuncId} {fn:Func} {c:Code} {eL:List D} {nR:α->List D} {Pf Fn:List α->Prop} {ok kp:aC->Prop} (N:Nat) (hf:P.funcs[f]?=some fn) (x5:(fn.name== "runtime.NumGoroutine")=false) (hb:fn.body=some c) (hN:fn.ntmps=N) (OZ:fn.results= #[]) (hl:eL.length+1<=N)
  (h:∀(l:Nat) (J Jx:List α->aC->Prop) (H:aC) (w0:World) (g0:DW w0 H) (Q:Exit->St->Prop),ok H->J [] H->NS H J->NS H Jx->(∀pre Hc,J pre Hc->kp Hc)->YCG P l H w0 J Jx nR Pf->(∀e s,e=.normal\/e=.ret->s.df=[]->((∃ys,Fn ys/\J ys s.H)\/∃pre,Jx pre s.H)->Q e s)->W ⟨P,none,N,H,w0,g0⟩ c Q (St.init (yD l::eL) H)):AN P f eL nR Pf Fn ok kp:=And.intro (uH hf x5 hb) fun l J Jx H w vs fI hH hG hJ hC hCx G6 hY zD=>by
 have aHo:Calls P f vs.toArray w fun e w'=>∃v d H',e=.returned v/\D.is w' H'.others d v/\iK w' H'/\Ev H w H' w'/\((∃ys,Fn ys/\J ys H')\/∃pre,Jx pre H'):=by
  refine vA (ro:=none) (n:=9) (callsIn_of_wp hf hb trivial ?_ rfl)
  have fJ:=lA zD
  obtain⟨ds,hds⟩:∃ds,ds=yD l::eL:=⟨_,rfl⟩
  have hl':ds.length<=N:=by rw[hds];exact hl
  have m:dF ⟨P,none,N,H,w,hG⟩ (St.init (yD l::eL) H) {tmps:=vs.toArray++Array.replicate (fn.ntmps - vs.toArray.size) undef,defers:=[]} w:=by
   rw[<-hds] at fJ zD ⊢
   refine⟨by simp;omega,rfl,fun t=>?_,hH,fT _ _⟩
   simp only[St.init]
   rcases oC t ds.length with kL|GM
   ·obtain⟨v,h1,h2⟩:=nL zD t ds[t] (by simp [kL])
    have e1:ds.getD t (.val undef)=ds[t]:=by simp [List.getD,kL]
    have e2:(vs.toArray++Array.replicate (fn.ntmps - vs.toArray.size) undef).getD t undef=v:=by
     rw[v8,FW (by simp;omega)]
     simp [h1]
    rw[e1,e2];exact h2
   ·have e1:ds.getD t (.val undef)=.val undef:=by simp [List.getD,GM]
    rw[e1]
    simp only[D.is]
    rw[v8,FV (by simp;omega),KL]
    split <;> rfl
  refine wpIn_mono (h l J Jx H w hG (aEq ⟨P,none,N,H,w,hG⟩ fn fun _ H'=>(∃ys,Fn ys/\J ys H')\/∃pre,Jx pre H') fI hJ hC hCx G6 hY (fun e s he aT hr=>ED he aT (by rw[OZ];exact⟨s.H,aG _,hr⟩)) _ _ m) fun e a' w' ⟨s',m',q⟩=>?_
  have key:s'.df=[]/\aAA ⟨P,none,N,H,w,hG⟩ fn s' (fun _ H'=>(∃ys,Fn ys/\J ys H')\/∃pre,Jx pre H')->a'.defers=[]/\∃v,(results fn a'.tmps).run P w'=.ok v w'/\∃v' d H',Ending.returned v=.returned v'/\D.is w' H'.others d v'/\iK w' H'/\Ev H w H' w'/\((∃ys,Fn ys/\J ys H')\/∃pre,Jx pre H'):=by
   rintro⟨aT,fG⟩
   obtain⟨v,d,H',h1,h2,h3,h4⟩:=fG a' w' m'
   have m2:=m'.less h3
   exact⟨m'.df.trans aT,v,h1,v,d,H',rfl,h2,m2.H,m2.ev,h4⟩
  cases e with
  |normal=>
   obtain⟨h1,v,h2,h3⟩:=key q
   exact⟨h1,v,h2,h3⟩
  |ret=>
   obtain⟨h1,v,h2,h3⟩:=key q
   exact⟨h1,v,h2,h3⟩
  |_=>exact q.elim
 refine aHo.mono ?_
 rintro e w' ⟨v,d,H',h1,_,h3,h4,h5⟩
 exact⟨v,H',h1,h3,h4,h5⟩
theorem aD8 {α:Type} {P:Program} {f:FuncId} {fn:Func} {c:Code} {eL:List D} {nR:α->List D} {xs:List α} {ok:aC->Prop} (N:Nat) (hf:P.funcs[f]?=some fn) (x5:(fn.name== "runtime.NumGoroutine")=false) (hb:fn.body=some c) (hN:fn.ntmps=N) (OZ:fn.results= #[]) (hl:eL.length+1<=N)
  (h:∀(l:Nat) (J Jx:List α->aC->Prop) (H:aC) (w0:World) (g0:DW w0 H) (Q:Exit->St->Prop),ok H->J [] H->YC P l H w0 J Jx nR xs->(∀e s,e=.normal\/e=.ret->s.df=[]->(J xs s.H\/∃pre,Jx pre s.H)->Q e s)->W ⟨P,none,N,H,w0,g0⟩ c Q (St.init (yD l::eL) H)):Z8 P f eL nR xs ok:=JT N hf x5 hb hN OZ hl fun l J Jx H w0 g0 Q fI hJ _ _ _ hY aD=>h l J Jx H w0 g0 Q fI hJ hY fun e s he aT hr=>aD e s he aT (hr.imp (fun h=>⟨_,rfl,h⟩) id)
theorem bE.post {P:Program} {f:FuncId} {ds:List D} {H:aC} {K K0:D->aC->Prop} (h:bE P f ds H K)
  (hk:∀d H',K d H'->∃d0 H0,H0.le H'/\(∀w v,iK w H'->D.is w H'.others d v->D.is w H0.others d0 v)/\K0 d0 H0):bE P f ds H K0:=
 And.intro h.1 fun w vs zD hH hG=>(h.2 w vs zD hH hG).mono fun e w' ⟨v,d,H',he,hd,hH',lO,HP⟩=>by
  obtain⟨d0,H0,h1,h2,h3⟩:=hk d H' HP
  exact⟨v,d0,H0,he,h2 w' v hH' hd,hH'.less h1,lO.less h1,h3⟩
theorem aL8 {w:World} {H:aC} {b o sz:Nat} {ty:TypeId} {els:List (List D)} (hb:H b=none) {v:Value} (hH:iK w (H.bH b (.row ty o sz els))) (h:D.is w (H.bH b (.row ty o sz els)).others (.os b o sz 0 els.length) v):D.is w H.others (.seq sz els) v:=by
 have:=XW hH (aO _ _ _) (by omega) h
 rwa[wC,tH hb,jB,nC] at this
theorem aC.SR {H:aC} {b c:Nat} {x y:fK} (h:b≠c):(H.bH b x).bH c y=(H.bH c y).bH b x:=funext fun k=>by
 by_cases h1:k=b
 ·subst h1;rw[aN h,aO,aO]
 ·by_cases h2:k=c
  ·subst h2;rw[aO,aN h1,aO]
  ·rw[aN h2,aN h1,aN h1,aN h2]
def aNA (sz:Nat) (els:List (List D)) (d:D) (H1 H':aC):Prop:=
 (d=.val (.slice none 0 0)/\els=[]/\H'=H1)\/(d=.TA/\els=[]/\H'=H1)\/(∃b o ty,H1 b=none/\d=.os b o sz 0 els.length/\H'=H1.bH b (.row ty o sz els))\/(d=.seq sz els/\H'=H1)
def Gl (H0:aC) (e:TypeId) (sz:Nat) (els:List (List D)) (d:D) (H:aC) (ob:Option Nat):Prop:=
 (ob=none/\d=.val (.slice none 0 0)/\els=[])\/∃c o,ob=some c/\d=.os c o sz 0 els.length/\H0 c=none/\H c=some (.row e o sz els)
theorem Gl.nil (H0:aC) (e:TypeId) (sz:Nat) (H:aC):Gl H0 e sz [] (.val (.slice none 0 0)) H none:=.inl ⟨rfl,rfl,rfl⟩
abbrev iW:=@Gl.nil
theorem Gl.fS {H0:aC} {e:TypeId} {sz:Nat} {els:List (List D)} {d:D} {H H':aC} {ob:Option Nat} (h:Gl H0 e sz els d H ob) (hk:∀c,ob=some c->H' c=H c):Gl H0 e sz els d H' ob:=by
 rcases h with h|⟨c,o,h1,h2,h3,h4⟩
 ·exact .inl h
 ·exact .inr ⟨c,o,h1,h2,h3,(hk c h1).trans h4⟩
theorem Gl.fin {H0:aC} {e:TypeId} {sz:Nat} {els:List (List D)} {d:D} {H:aC} {ob:Option Nat} (h:Gl H0 e sz els d H ob) (aS:H0.le H):∃H',H'.le H/\aNA sz els d H0 H':=by
 rcases h with⟨_,rfl,rfl⟩|⟨c,o,_,rfl,h3,h4⟩
 ·exact⟨H0,aS,.inl ⟨rfl,rfl,rfl⟩⟩
 ·refine⟨H0.bH c (.row e o sz els),fun b x hb=>?_,.inr (.inr (.inl ⟨c,o,e,h3,rfl,rfl⟩))⟩
  by_cases hc:b=c
  ·subst hc;rw[aO] at hb;rw[h4];exact hb
  ·rw[aN hc] at hb;exact aS _ _ hb
theorem Gl.cells {H0:aC} {e:TypeId} {sz:Nat} {els:List (List D)} {d:D} {H:aC} {ob:Option Nat} (h:Gl H0 e sz els d H ob):D.cells d=some [d]:=by
 rcases h with⟨_,rfl,_⟩|⟨c,o,_,rfl,_⟩ <;> rfl
theorem dD {P:Program} {H0 H:aC} {t xt e:TypeId} {td xd:Ti} {sz uW:Nat} {zs:List Value} {ed:TD} {els new:List (List D)} {x y:D} {K:D->aC->Prop} {ob:Option Nat}
  (h1:bQ P t=some td) (VF:td.d=.slice e) (h2:bQ P xt=some xd) (h2':xd.d.kX=true) (h3:bQ P e=some ⟨ed,sz,uW,some zs⟩) (hzs:zs.length=sz) (hby:uW≠0)
  (aS:H0.le H) (hs:Gl H0 e sz els x H ob) (hy:mK H sz y (·=new)) (hb:(els.length+new.length) * uW<=140737488355328)
  (hk:∀d H' ob',Gl H0 e sz (els++new) d H' ob'->H0.le H'->(∀b z,H b=some z->ob≠some b->H' b=some z/\ob'≠some b)->K d H'):WX P H t xt x y K:=by
 have hs':∃H1,Sl e sz els x H1 H/\H0.le H1/\∀b z,H b=some z->ob≠some b->H1 b=some z:=by
  rcases hs with⟨rfl,rfl,rfl⟩|⟨c,o,rfl,rfl,AL,hc⟩
  ·exact⟨H,.inl ⟨rfl,rfl,rfl⟩,aS,fun b z hb _=>hb⟩
  ·refine⟨H.del c,.inr ⟨c,o,rfl,tG _ _,?_⟩,aC.aCP aS AL,fun b z hb fM=>by rw[bS (fun e=>fM (by rw[e]))];exact hb⟩
   rw[aC.aDM]
   funext b
   by_cases e:b=c
   ·subst e;rw[aO,hc]
   ·rw[aN e]
 obtain⟨H1,ND,kU,hp⟩:=hs'
 refine Sl.WX h1 VF h2 h2' h3 hzs hby ND hy hb fun d H' hs2=>?_
 rcases hs2 with⟨rfl,h5,rfl⟩|⟨c',o',rfl,gG,rfl⟩
 ·exact hk _ _ none (.inl ⟨rfl,rfl,h5⟩) kU fun b z hb fM=>⟨hp b z hb fM,by simp⟩
 ·have h0:H0 c'=none:=by
   cases hx:H0 c' with
   |none=>rfl
   |some x=>have:=kU _ _ hx;rw[gG] at this;cases this
  refine hk _ _ (some c') (.inr ⟨c',o',rfl,rfl,h0,aO _ _ _⟩) (o8 kU gG) fun b z hb fM=>?_
  have h6:=hp b z hb fM
  have h7:b≠c':=fun e=>by rw[e,gG] at h6;cases h6
  exact⟨by rw[aN h7];exact h6,fun e=>h7 (by injection e with e;exact e.symm)⟩
theorem sR {cx:Cx} {c:Code} {Q:Exit->St->Prop} {s:St} (M:St->Prop) (h1:M s) (h2:∀s,M s->W cx c Q s):W cx c Q s:=h2 s h1
def St.wdf (s:St) (ds:List Deferred):St:={s with df:=ds}
theorem eY (s:St) (ds:List Deferred):(s.wdf ds).fr=s.fr:=rfl
theorem eX (s:St) (ds:List Deferred):(s.wdf ds).H=s.H:=rfl
theorem eN (s:St) (ds:List Deferred):(s.wdf ds).df=ds:=rfl
theorem bW (s:St) (ds:List Deferred) (H:aC):(s.wdf ds).dY H=(s.dY H).wdf ds:=rfl
theorem aIR (s:St) (p:Nat) (d:D) (H:aC):rst s [p] [d] H=((s.dY H).wdf []).put (some p) d:=rfl
theorem aPH (s:St) (p q:Nat) (d e:D) (H:aC):rst s [p,q] [d,e] H=(((s.dY H).wdf []).put (some p) d).put (some q) e:=rfl
theorem xP (s:St) (H:aC) (ds:List Deferred):({s with H:=H,df:=ds}:St)=(s.dY H).wdf ds:=rfl
theorem mk1 {D:Nat} {H:aC} (h:H D=some (.obj MY)):mk [xO D] H:=⟨D,rfl,h,trivial⟩
theorem J1 (D:Nat) (H:aC):L8 [xO D] H=H.bH D .hid:=rfl
theorem eQ (N:St->Prop) (Q:Exit->St->Prop) (s:St):gK N Q .normal s=N s:=rfl
theorem fP (id:Nat) (Q:Exit->St->Prop) (s:St):iV id Q .normal s=Q .normal s:=rfl
theorem lD (N:St->Prop) (Q:Exit->St->Prop) (s:St):gK N Q .ret s=Q .ret s:=rfl
theorem jC (id:Nat) (Q:Exit->St->Prop) (s:St):iV id Q .ret s=Q .ret s:=rfl
theorem kY {α:Type} (I:List α->aC->Prop) (Ix:Exit->List α->aC->Prop) (ys:List α) (Hb:aC) (s:St):aCa I Ix ys Hb .normal s=(s.df=[]/\lU Hb s.H/\I ys s.H):=rfl
theorem j9 {α:Type} (I:List α->aC->Prop) (Ix:Exit->List α->aC->Prop) (ys:List α) (Hb:aC) (s:St):aCa I Ix ys Hb .ret s=(s.df=[]/\lU Hb s.H/\Ix .ret ys s.H):=rfl
theorem aC.aOm {H H':aC} {b:Nat} {x:fK} (h:H.le H') (hb:H b=Option.none):H.le (H'.bH b x):=fun c y e=>by
 rw[aN (fun hc=>by rw[hc,hb] at e;cases e)];exact h _ _ e
abbrev bK:=@aC.aOm
theorem aC.aLO {H H':aC} {b:Nat} (h:H.le H') (hb:H' b=Option.none):H b=Option.none:=by
 cases e:H b with
 |none=>rfl
 |some x=>rw[h _ _ e] at hb;cases hb
abbrev tJ:=@aC.aLO
theorem FF {H0 Hb H1 H':aC} {e:TypeId} {sz:Nat} {els:List (List D)} {d:D} {ob:Option Nat} {p:Nat->Prop} (h:lU Hb H1) (hg:Gl H0 e sz els d H1 ob) (hp:∀b z,H1 b=some z->ob≠some b->H' b=some z/\p b):lU Hb H':=fun c o hc=>by
 have h1:=h c o hc
 refine(hp c _ h1 fun e=>?_).1
 rcases hg with⟨h2,_⟩|⟨c',o',h2,_,_,h4⟩
 ·rw[h2] at e;cases e
 ·rw[h2] at e;injection e with e;rw[e,h1] at h4;cases h4
theorem Gl.new {H0:aC} {e:TypeId} {sz:Nat} {els:List (List D)} {d:D} {H:aC} {ob:Option Nat} {b:Nat} {x:fK} (h:Gl H0 e sz els d H ob) (hb:H b=none):Gl H0 e sz els d (H.bH b x) ob:=by
 rcases h with h|⟨c,o,h1,h2,h3,h4⟩
 ·exact .inl h
 ·exact .inr ⟨c,o,h1,h2,h3,by rw[aN (fun e=>by rw[e,hb] at h4;cases h4)];exact h4⟩
theorem Gl.obj {H0:aC} {e:TypeId} {sz:Nat} {els:List (List D)} {d:D} {H:aC} {ob:Option Nat} {b:Nat} {x:fK} {o:Obj} (h:Gl H0 e sz els d H ob) (hb:H b=some (.obj o)):Gl H0 e sz els d (H.bH b x) ob:=by
 rcases h with h|⟨c,o,h1,h2,h3,h4⟩
 ·exact .inl h
 ·exact .inr ⟨c,o,h1,h2,h3,by rw[aN (fun e=>by rw[e,hb] at h4;cases h4)];exact h4⟩
theorem aC.aRP {H:aC} {b c:Nat} {x:fK} (h:H b=some x) (hc:H c=Option.none):b≠c:=fun e=>by rw[e,hc] at h;cases h
abbrev nZ:=@aC.aRP
theorem BI {H:aC} {b l:Nat} {x:fK} {y:Obj} (hx:∀o,x≠ .obj o):lU ((H.bH b x).bH l (.obj y)) (H.bH l (.obj y)):=fun c o e=>by
 by_cases h1:c=l
 ·subst h1;rw[aO] at e ⊢;exact e
 ·rw[aN h1] at e ⊢
  by_cases h2:c=b
  ·subst h2;rw[aO] at e;injection e with e;exact absurd e (hx o)
  ·rw[aN h2] at e;exact e
theorem sL {P:Program} {b:Frame} {a:Act} {k:List Item} {cs:List Frame} {w:World} {c:Code}:step P (lone (b.atR a (.code (.scope c)::k)) cs w)=.next (lone (b.atR a (.code c:: .inScope c::k)) cs w):=
 step_lone_go (by simp [stepG,stepG.exec,Frame.atR])
theorem UJ {P:Program} {b:Frame} {a:Act} {k:List Item} {cs:List Frame} {w:World} {c:Code}:step P (lone (b.atR a (.inScope c::k)) cs w)=.next (lone (b.atR a k) cs w):=
 step_lone_go (by simp [stepG,stepG.exec,Frame.atR])
def PB (Q:Exit->St->Prop):Exit->St->Prop
 | .goto _,_=>False
 |e,s=>Q e s
theorem cV {cx:Cx} {c:Code} {Q:Exit->St->Prop} {s:St} (h:W cx c (PB Q) s):W cx (.scope c) Q s:=fun a w m=>by
 intro b k cs hro hb hr
 have h0:(lone (b.atR a (.code (.scope c)::k)) cs w).fenced cx.P (FR cx.ro):=fenced_calm hb hr rfl
 obtain⟨e,aGE,aJM,⟨s',m',hq⟩,aFE⟩:=h a w m b (.inScope c::k) cs hro hb hr
 cases e with
 |normal=>exact⟨.normal,aGE,aJM,⟨s',m',hq⟩,.head h0 sL (StepsIn.trans aFE (.one (fenced_calm hb hr rfl) UJ))⟩
 |exit id'=>
  have hx:exitTo id' (.inScope c::k)=exitTo id' k:=by simp [exitTo]
  exact⟨.exit id',aGE,aJM,⟨s',m',hq⟩,fun k' hk=>.head h0 sL (aFE.1 k' (by rw[hx];exact hk)),
   fun hr' hk=>let ⟨aZM,h1,h2⟩:=aFE.2 hr' (by rw[hx];exact hk);⟨aZM,h1,.head h0 sL h2⟩⟩
 |goto l=>exact hq.elim
 |ret=>exact⟨_,aGE,aJM,⟨s',m',hq⟩,.of_steps (.one h0 sL) aFE⟩
 |panic ch=>exact⟨_,aGE,aJM,⟨s',m',hq⟩,.of_steps (.one h0 sL) aFE⟩
 |outgrown=>exact⟨_,aGE,aJM,⟨s',m',hq⟩,.of_steps (.one h0 sL) aFE⟩
theorem jT (Q:Exit->St->Prop) (s:St):PB Q .normal s=Q .normal s:=rfl
theorem jU (Q:Exit->St->Prop) (s:St):PB Q .ret s=Q .ret s:=rfl
theorem jS (Q:Exit->St->Prop) (i:Nat) (s:St):PB Q (.exit i) s=Q (.exit i) s:=rfl
theorem aCq (s:St):s.dY s.H=s:=rfl
def bsQ (P:Program) (t:TypeId) (len:Nat) (ds:List (Nat×D)) (K:D->Prop):Prop:=
 match bQ P t with
 |some ⟨.slice e,_,_,_⟩=>(match bQ P e with
  |some ⟨_,sz,_,some zs⟩=>zs.length=sz/\ds.length=len/\len * sz<=16777216/\(match qI sz ds 0 with
   |some els=>els.length=len/\K (.seq sz els)
   |none=>False)
  |_=>False)
 |_=>False
theorem aLf {P:Program} {H:aC} {w:World} (hH:iK w H) {t:TypeId} {len:Nat} {ds:List (Nat×D)} {vs:Array (Nat×Value)} {K:D->Prop} (h:bsQ P t len ds K) (hx:oV w H.others ds vs.toList):
  ∃r d' w' H',(Instr.buildSlice t len vs).run P w=.ok r w'/\D.is w' H'.others d' r/\iK w' H'/\Ev H w H' w'/\(K d'/\H'=H):=by
 unfold bsQ at h
 split at h
 ·rename_i e _ _ _ hT
  split at h
  ·rename_i dE sz byE zs hE
   obtain⟨h1,h2,h3,h4⟩:=h
   split at h4
   ·rename_i els hr
    obtain⟨hl,hk⟩:=h4
    obtain⟨r,d',w',H',g1,g2,g3,g4,b,g5,g6,g7⟩:=aEB (K:=fun d H'=>∃b,H b=none/\d=.os b 0 sz 0 len/\H'=H.bH b (.row e 0 sz els)) hH (by
     unfold S8
     rw[hT];simp only
     rw[hE];simp only
     refine⟨h1,h2,h3,?_⟩
     rw[hr]
     exact fun b hb=>⟨b,hb,rfl,rfl⟩) hx
    subst g6 g7
    rw[<-hl] at g2
    exact⟨r,.seq sz els,w',H,g1,aL8 g5 g3 g2,g3.less (o8 (aG _) g5),g4.less (o8 (aG _) g5),hk,rfl⟩
   ·exact h4.elim
  ·exact h.elim
 ·exact h.elim
def zH (cx:Cx) (o:Oper) (s:St) (K:St->Prop):Prop:=
 match o.op with
 | .buildSlice t (n+1) ps=>bsQ cx.P t (n+1) (s.parts ps) fun d=>K (s.put o.dst d)
 |_=>eG cx o s K
theorem zI {cx:Cx} {o:Oper} {s:St} {K:St->Prop} (hd:DE cx.n o.dst) (h:zH cx o s K):WO cx o K s:=by
 unfold zH at h
 split at h
 ·rename_i t n ps e
  refine uF (by simp [e]) hd fun a w m=>?_
  obtain⟨r,d,w',H',h1,h2,h3,h4,h5,h6⟩:=aLf m.H h (m.R3 ps)
  subst h6
  exact⟨r,w',d,s.H,by simp only[execOp,e,Sem.run_bind,h1,Result.andThen,Sem.run_pure],h2,h3,h4,h5⟩
 ·exact rY hd h
def v7 (cx:Cx) (aX:Array Oper) (Q:Exit->St->Prop):List Oper->St->Prop
 |[],s=>Q .normal s
 |o::eJ,s=>(match o.guard with
  |none=>zH cx o s fun s'=>if kV o.op then WL cx aX eJ Q s' else v7 cx aX Q eJ s'
  |some (j,fL)=>(match qF aX j with
   |some t=>(match s.fr t with
    | .val (.bool b)=>CL (b==fL) (zH cx o (s.put (some t) (.val (.bool fL))) fun s'=>if kV o.op then WL cx aX eJ Q s' else v7 cx aX Q eJ s') (v7 cx aX Q eJ ((s.put (some t) (.val (.bool !fL))).put o.dst (.val undef)))
    | .val (.tuple ⟨[]⟩)=>v7 cx aX Q eJ (s.put o.dst (.val undef))
    |_=>False)
   |none=>False))
theorem CQ {cx:Cx} {aX:List Oper} {Q:Exit->St->Prop} (fI:gJ cx.n aX=true):∀{l:List Oper} {s:St},gJ cx.n l=true->v7 cx aX.toArray Q l s->WL cx aX.toArray l Q s
 |[],s,_,h=>WR h
 |o::eJ,s,hl,h=>by
  simp only[gJ,pX,eK] at hl
  have hd:DE cx.n o.dst:=by
   have:=hl.1
   unfold DE
   cases ho:o.dst with
   |none=>trivial
   |some t=>rw[ho] at this;simpa using this
  have ih:∀s',v7 cx aX.toArray Q eJ s'->WL cx aX.toArray eJ Q s':=fun s' h'=>CQ fI hl.2 h'
  have ih2:∀s',(if kV o.op then WL cx aX.toArray eJ Q s' else v7 cx aX.toArray Q eJ s')->WL cx aX.toArray eJ Q s':=fun s' h'=>by
   split at h'
   ·exact h'
   ·exact ih s' h'
  simp only[v7] at h
  split at h
  ·rename_i hg
   exact wJ hg (E0 (zI hd h) ih2)
  ·rename_i j fL hg
   split at h
   ·rename_i t ht
    have T6:t<cx.n:=by
     unfold qF at ht
     cases hj:aX.toArray[j]? with
     |none=>rw[hj] at ht;cases ht
     |some o'=>
      rw[hj] at ht
      have:=(eZ.1 fI) o' (by have:=F1 hj;simpa using this)
      simp at ht
      rw[ht] at this
      simpa using this
    split at h
    ·rename_i b hb
     exact AP hg ht T6 (j8 hd) (.inl ⟨b,hb,fun e=>by
       have h2:=ZB h (by rw[e];cases fL <;> rfl)
       rw[Y8 (by rw[hb,e])] at h2
       exact E0 (zI hd h2) ih2,fun e=>by
       have h2:=ZA h (by rw[e];cases fL <;> rfl)
       rw[Y8 (by rw[hb,e])] at h2
       exact ih _ h2⟩)
    ·rename_i hb
     exact AP hg ht T6 (j8 hd) (.inr ⟨hb,ih _ h⟩)
    ·exact h.elim
   ·exact h.elim
theorem kD {cx:Cx} {id:Nat} {aX:List Oper} {Q:Exit->St->Prop} {s:St} (fI:gJ cx.n aX=true) (h:v7 cx aX.toArray Q aX s):W cx (.region id aX.toArray false) Q s:=
 IZ (CQ fI fI h)
theorem kC {cx:Cx} {aX l:List Oper} {Q:Exit->St->Prop} {s:St} (fI:gJ cx.n aX=true) (hl:gJ cx.n l=true) (h:v7 cx aX.toArray Q l s):WL cx aX.toArray l Q s:=CQ fI hl h
def LtN (i n:Nat):Prop:=i<n
theorem aZ {cx:Cx} {c:Code} {Q:Exit->St->Prop} {s:St} (n:Nat) (I:Nat->St->Prop) (h0:I 0 s)
  (round:∀i s,i<=n->I i s->W cx c (gK (fun s'=>LtN i n/\I (i+1) s') Q) s):W cx (.loop c) Q s:=by
 refine aFx (fun s=>∃i,i<=n/\I i s) (fun s=>Classical.epsilon fun k=>∃i,i<=n/\I i s/\k=n - i/\∀j,j<=n->I j s->n - i<=n - j) s.H (aG _) ⟨0,oD _,h0⟩ ?_
 rintro s1 hex
 have pick:∀s:St,(∃i,i<=n/\I i s)->∃i,i<=n/\I i s/\∀j,j<=n->I j s->n - i<=n - j:=fun s ⟨i,hi,h⟩=>by
  obtain⟨k,⟨i',h1,h2,rfl⟩,h3⟩:=aHd (fun k=>∃i,i<=n/\I i s/\n - i=k) ⟨_,i,hi,h,rfl⟩
  exact⟨i',h1,h2,fun j hj hI=>h3 _ ⟨j,hj,hI,rfl⟩⟩
 have mu:∀s:St,(∃i,i<=n/\I i s)->∃i,i<=n/\I i s/\(Classical.epsilon fun k=>∃i,i<=n/\I i s/\k=n - i/\∀j,j<=n->I j s->n - i<=n - j)=n - i/\∀j,j<=n->I j s->n - i<=n - j:=fun s h=>by
  obtain⟨i,h1,h2,h3⟩:=pick s h
  obtain⟨i',g1,g2,g3,g4⟩:=ZW (p:=fun k=>∃i,i<=n/\I i s/\k=n - i/\∀j,j<=n->I j s->n - i<=n - j) ⟨_,i,h1,h2,rfl,h3⟩
  exact⟨i',g1,g2,g3,g4⟩
 obtain⟨i,h1,h2,h3,h4⟩:=mu s1 hex
 refine vP (round i s1 h1 h2) fun e s' q=>?_
 cases e with
 |normal=>
  obtain⟨kL,hI⟩:=q
  replace kL:i<n:=kL
  refine⟨s'.H,aG _,⟨i+1,kL,hI⟩,?_⟩
  rw[h3]
  obtain⟨j,g1,g2,g3,g4⟩:=mu s' ⟨i+1,kL,hI⟩
  show(Classical.epsilon _)<_
  have:=g4 (i+1) kL hI
  rw[show s'.dY s'.H=s' from rfl,g3]
  omega
 |_=>exact q
def GB (H H':aC) (d d0:D):Prop:=∀w v,iK w H'->D.is w H'.others d v->D.is w H.others d0 v
theorem bE.fZ {P:Program} {f:FuncId} {ds:List D} {H:aC} {K:D->Prop} (h:bE P f ds H fun d H'=>H.le H'/\∃d0,GB H H' d d0/\K d0):bE P f ds H fun d H'=>K d/\H=H':=
 h.post fun d H' ⟨aS,d0,hf,hk⟩=>⟨d0,H,aS,hf,hk,rfl⟩
abbrev bO:=@bE.fZ
theorem aH {H H':aC} {d:D} (h:H.le H'):GB H H' d d:=fun w v _ hv=>qD (rP h w) d hv
theorem yY {H H':aC} {b o sz k n:Nat} {ty:TypeId} {els:List (List D)} (aS:H.le H') (hb:H' b=some (.row ty o sz els)) (h0:H b=none) (hn:k+n<=els.length):GB H H' (.os b o sz k n) (.seq sz ((els.drop k).take n)):=fun w v hH hv=>by
 have h1:=XW hH hb hn hv
 refine qD (rP (H':=H) (fun c x hc=>?_) w) _ h1
 rw[bS (fun e=>by rw[e,h0] at hc;cases hc)]
 exact aS _ _ hc
theorem aNl {H H':aC} {b o sz i k:Nat} {ty:TypeId} {els:List (List D)} {el:List D} (aS:H.le H') (hb:H' b=some (.row ty o sz els)) (h0:H b=none) (hi:els[i]?=some el):GB H H' (.ep b o sz i k) (.rp (el.drop k)):=fun w v hH hv=>by
 have h1:=XX hH hb hi hv
 refine qD (rP (H':=H) (fun c x hc=>?_) w) _ h1
 rw[bS (fun e=>by rw[e,h0] at hc;cases hc)]
 exact aS _ _ hc
theorem qA {H H':aC} {sz:Nat}:GB H H' (.val (.slice none 0 0)) (.seq sz []):=fun w v _ hv=>YU hv
theorem qL {H H':aC} {e:TypeId} {sz:Nat} {els:List (List D)} {d:D} {ob:Option Nat} (aS:H.le H') (hg:Gl H e sz els d H' ob):GB H H' d (.seq sz els):=by
 rcases hg with⟨_,rfl,rfl⟩|⟨c,o,_,rfl,h3,h4⟩
 ·exact qA
 ·have:=yY (k:=0) (n:=els.length) aS h4 h3 (by omega)
  rwa[jB,nC] at this
def BV (H H':aC):List D->List D->Prop
 |[],[]=>True
 |d::ds,e::es=>GB H H' d e/\BV H H' ds es
 |_,_=>False
theorem BV.all {H H':aC} {w:World} (hH:iK w H'):∀{ds es:List D} {vs:List Value},BV H H' ds es->aW w H'.others ds vs->aW w H.others es vs
 |[],[],vs,_,h=>by simp only[aW] at h ⊢;exact h
 |d::ds,e::es,vs,hv,h=>by
  simp only[aW] at h ⊢
  obtain⟨u,us,rfl,h1,h2⟩:=h
  exact⟨u,us,rfl,hv.1 w u hH h1,BV.all hH hv.2 h2⟩
 |[],_::_,_,hv,_=>hv.elim
 |_::_,[],_,hv,_=>hv.elim
theorem BV.cells {H H':aC} {w:World} (hH:iK w H'):∀{ds es:List D} {vs:List Value},BV H H' ds es->aU w H'.others ds vs->aU w H.others es vs
 |[],[],vs,_,h=>by simp only[aU] at h ⊢;exact h
 |d::ds,e::es,vs,hv,h=>by
  simp only[aU] at h ⊢
  obtain⟨u,us,rfl,h0,h1,h2⟩:=h
  exact⟨u,us,rfl,h0,hv.1 w u hH h1,BV.cells hH hv.2 h2⟩
 |[],_::_,_,hv,_=>hv.elim
 |_::_,[],_,hv,_=>hv.elim
theorem JH {H H':aC} {ds es:List D} (h:BV H H' ds es):GB H H' (.pG ds) (.pG es):=fun w v hH hv=>by
 simp only[D.is] at hv ⊢
 obtain⟨vs,rfl,h1⟩:=hv
 exact⟨vs,rfl,h.all hH h1⟩
theorem XV {H H':aC} {ds es:List D} (h:BV H H' ds es):GB H H' (.agg ds) (.agg es):=fun w v hH hv=>by
 simp only[D.is] at hv ⊢
 obtain⟨vs,rfl,h1⟩:=hv
 exact⟨vs,rfl,h.cells hH h1⟩
theorem aKJ {H H':aC} {a a' b b':D} (h:GB H H' a a') (h2:GB H H' b b'):BV H H' [a,b] [a',b']:=⟨h,h2,trivial⟩
theorem aPy {H H':aC} {a a' b b' c c':D} (h:GB H H' a a') (h2:GB H H' b b') (h3:GB H H' c c'):BV H H' [a,b,c] [a',b',c']:=⟨h,h2,h3,trivial⟩
theorem aBc {cx:Cx} {c:Code} {Q:Exit->St->Prop} {s:St} (t:Nat) (H':aC) (d0:D) (aS:H'.le s.H) (hf:GB H' s.H (s.fr t) d0) (h:W cx c Q ((s.dY H').put (some t) d0)):W cx c Q s:=fun a w m=>by
 refine h a w ?_
 have m2:=m.less aS
 refine⟨m2.n,m2.df,fun x=>?_,m2.H,m2.ev⟩
 rw[zG]
 show D.is w H'.others _ _
 by_cases hx:x=t
 ·subst hx;rw[aE rfl];exact hf w _ m.H (m.fr x)
 ·rw[aA hx];exact m2.fr x
theorem aCt {cx:Cx} {aX:Array Oper} {l:List Oper} {Q:Exit->St->Prop} {s:St} (t:Nat) (H':aC) (d0:D) (aS:H'.le s.H) (hf:GB H' s.H (s.fr t) d0) (h:WL cx aX l Q ((s.dY H').put (some t) d0)):WL cx aX l Q s:=fun a w m=>by
 refine h a w ?_
 have m2:=m.less aS
 refine⟨m2.n,m2.df,fun x=>?_,m2.H,m2.ev⟩
 rw[zG]
 show D.is w H'.others _ _
 by_cases hx:x=t
 ·subst hx;rw[aE rfl];exact hf w _ m.H (m.fr x)
 ·rw[aA hx];exact m2.fr x
def Imp (d d':D):Prop:=∀w S v,D.is w S d v->D.is w S d' v
theorem dQ (d:D):Imp d d:=fun _ _ _ h=>h
theorem fR {sz:Nat}:Imp (.val (.slice none 0 0)) (.seq sz []):=fun _ _ _ h=>YU h
def yK:List D->List D->Prop
 |[],[]=>True
 |d::ds,e::es=>Imp d e/\yK ds es
 |_,_=>False
def IQ:List (List D)->List (List D)->Prop
 |[],[]=>True
 |d::ds,e::es=>yK d e/\IQ ds es
 |_,_=>False
theorem yK.len:∀{ds es:List D},yK ds es->ds.length=es.length
 |[],[],_=>rfl
 |d::ds,e::es,h=>by rw[eO,eO,yK.len h.2]
 |[],_::_,h=>h.elim
 |_::_,[],h=>h.elim
theorem IQ.len:∀{ds es:List (List D)},IQ ds es->ds.length=es.length
 |[],[],_=>rfl
 |d::ds,e::es,h=>by rw[eO,eO,IQ.len h.2]
 |[],_::_,h=>h.elim
 |_::_,[],h=>h.elim
theorem yK.at {w:World} {S:Nat->Prop} {b:Nat}:∀{ds es:List D} {o:Nat},yK ds es->dL w S b o ds->dL w S b o es
 |[],[],_,_,h=>by simp only[dL] at h ⊢
 |d::ds,e::es,o,hv,h=>by
  simp only[dL] at h ⊢
  obtain⟨⟨u,h1,h2,h3⟩,h4⟩:=h
  exact⟨⟨u,h1,h2,hv.1 w S u h3⟩,yK.at hv.2 h4⟩
 |[],_::_,_,hv,_=>hv.elim
 |_::_,[],_,hv,_=>hv.elim
theorem IQ.at {w:World} {S:Nat->Prop} {b sz:Nat}:∀{ds es:List (List D)} {o:Nat},IQ ds es->eB w S b sz o ds->eB w S b sz o es
 |[],[],_,_,h=>by simp only[eB] at h ⊢
 |d::ds,e::es,o,hv,h=>by
  simp only[eB] at h ⊢
  exact⟨hv.1.len▸h.1,hv.1.at h.2.1,IQ.at hv.2 h.2.2⟩
 |[],_::_,_,hv,_=>hv.elim
 |_::_,[],_,hv,_=>hv.elim
theorem YI {sz:Nat} {els aNe:List (List D)} (h:IQ els aNe):Imp (.seq sz els) (.seq sz aNe):=fun w S v hv=>by
 simp only[D.is] at hv ⊢
 obtain⟨A,c,rfl,h1,h2⟩:=hv
 refine⟨A,c,by rw[h.len],by rw[<-h.len];exact h1,?_⟩
 rcases h2 with h2|⟨b,o,h3,h4,h5,h6⟩
 ·left
  have:=h.len
  rw[h2] at this
  exact iX this.symm
 ·exact .inr ⟨b,o,h3,h4,h5,h.at h6⟩
theorem yK.aUw {w:World} {S:Nat->Prop}:∀{ds es:List D} {vs:List Value},yK ds es->aW w S ds vs->aW w S es vs
 |[],[],vs,_,h=>by simp only[aW] at h ⊢;exact h
 |d::ds,e::es,vs,hv,h=>by
  simp only[aW] at h ⊢
  obtain⟨u,us,rfl,h1,h2⟩:=h
  exact⟨u,us,rfl,hv.1 w S u h1,yK.aUw hv.2 h2⟩
 |[],_::_,_,hv,_=>hv.elim
 |_::_,[],_,hv,_=>hv.elim
theorem L2:∀l:List D,yK l l
 |[]=>trivial
 |_::l=>⟨dQ _,L2 l⟩
theorem bE.imp {P:Program} {f:FuncId} {ds ds':List D} {H:aC} {K:D->aC->Prop} (h:bE P f ds' H K) (hi:yK ds ds'):bE P f ds H K:=
 h.a09 (aG _) fun _ _ _ hv=>hi.aUw hv
end Go.Proofs.YtfiipaodjpiooaaGreatDoor

