/- Lemmas and contracts of functions, several texts in one. -/
import Derived.Test.YtfiipaodjpiooaaGreatDoorQ36
import Derived.Test.YtfiipaodjpiooaaGreatDoorQ40
import Derived.Test.YtfiipaodjpiooaaGreatDoorQ41
import Derived.Test.YtfiipaodjpiooaaGreatDoorQ37
set_option maxRecDepth 100000
set_option maxHeartbeats 4000000
set_option linter.all false
namespace Go.Proofs.YtfiipaodjpiooaaGreatDoor
open Go.RowKit
section
variable {b:cT} {m:List (Int×Int)}
theorem FP {l m:List (Int×Int)} (h:∀x∈l,x∈m) {n:Int} {ts:List dS}:∀(k:Nat) (a c:Int),KE l n ts k a c=true->KE m n ts k a c=true
 |0,_,_,hh=>by simp [KE] at hh
 |k+1,a,c,hh=>by
  simp only[KE,eK] at hh ⊢
  obtain⟨h1,h2,h3,h4,h5⟩:=hh
  refine⟨h1,h2,h3,?_,?_⟩
  ·by_cases e:(cZ ts a).k=3
   ·rw[aE e] at h4 ⊢
    simp only[eK,CZ] at h4 ⊢
    exact⟨MA h h4.1,FP h k _ _ h4.2.1,h4.2.2.imp id (FP h k _ _)⟩
   ·rw[aA e]
  ·rw[eZ] at h5 ⊢
   exact fun p hp=>FP h k _ _ (h5 p hp)
theorem aF9 {l m:List (Int×Int)} (h:∀x∈l,x∈m) {n:Int} {ts:List dS} {a c:Int} (hh:IF l n ts a c=true):IF m n ts a c=true:=by
 unfold IF at hh ⊢
 by_cases e:cE ts.length a/\cE ts.length c
 ·rw[aE e] at hh ⊢
  exact FP h _ _ _ hh
 ·rw[aA e] at hh;cases hh
theorem aKF (hm:∀x∈b.ol,x∈m) {o:qV} {t:Int} (h:uI b o t=true):uI (TN b m) o t=true:=by
 unfold uI at h ⊢
 by_cases e:1<o.k
 ·rw[aE e] at h ⊢;exact h
 ·rw[aA e] at h ⊢;exact aF9 hm h
theorem FG (hm:∀x∈b.ol,x∈m):∀(l:List qV) (fs:List Int),gA b l fs=0->gA (TN b m) l fs=0
 |[],_,_=>by simp only[gA]
 |o::l,[],h=>by
  simp only[gA] at h ⊢
  split at h
  ·rename_i e;exact absurd h e
  ·rename_i e;exact(aA e).trans (FG hm l [] h)
 |o::l,f::fs,h=>by
  simp only[gA] at h ⊢
  split at h
  ·rename_i e;exact absurd h e
  ·rename_i e
   split at h
   ·cases h
   ·rename_i e2
    refine(aA e).trans ((aA fun e3=>e2 ?_).trans (FG hm l fs h))
    cases e4:uI b o f
    ·rfl
    ·rw[aKF hm e4] at e3;cases e3
theorem ne0 {x y:Int} (h:¬x≠0) (k:x=0->y=0):¬y≠0:=fun e=>e (k (qP.1 h))
theorem aDw (hm:∀x∈b.ol,x∈m) {r:G0} {t n:Int} {x:Int×Int} (h:vU b r t n x=0):vU (TN b m) r t n x=0:=by
 unfold vU at h ⊢
 split at h
 ·cases h
 rename_i h1
 split at h
 ·rename_i h2;exact absurd h h2
 rename_i h2
 exact(aA h1).trans ((aA (ne0 h2 (FG hm _ _))).trans h)
theorem aJc (hm:∀x∈b.ol,x∈m) {r:G0} {t:Int} (h:I3 b r t=0):I3 (TN b m) r t=0:=by
 unfold I3 at h ⊢
 split at h
 ·rename_i h1;exact absurd h h1
 rename_i h1
 split at h
 ·cases h
 rename_i h2
 split at h
 ·cases h
 rename_i h3
 split at h
 ·cases h
 rename_i h4
 refine(aA h1).trans ((aA h2).trans ((aA h3).trans ((aA ?_).trans rfl)))
 rw[Bool.not_eq_false,eZ] at h4 ⊢
 exact fun q hq=>MA hm (h4 q hq)
theorem aPI (hm:∀x∈b.ol,x∈m) {r:G0} {t:Int} (h:SG b r t=0):SG (TN b m) r t=0:=by
 unfold SG at h ⊢
 split at h
 ·cases h
 rename_i h1
 split at h
 ·cases h
 rename_i h2
 refine(aA h1).trans ((aA h2).trans ?_)
 split at h
 ·rename_i h3;exact(aE h3).trans (FG hm _ _ h)
 rename_i h3
 refine(aA h3).trans ?_
 split at h
 ·rename_i h3;exact(aE h3).trans (aJc hm h)
 rename_i h3
 refine(aA h3).trans ?_
 split at h
 ·rename_i h3;exact(aE h3).trans (aDw hm h)
 rename_i h3
 refine(aA h3).trans ?_
 split at h
 ·rename_i h3;exact(aE h3).trans (aDw hm h)
 rename_i h3
 refine(aA h3).trans ?_
 split at h
 ·cases h
 rename_i h3
 exact(aA h3).trans (FG hm _ _ h)
theorem aPO (hm:∀x∈b.ol,x∈m) {s:EZ} (h:IN b s=0):IN (TN b m) s=0:=by
 unfold IN at h ⊢
 split at h
 ·rename_i h1
  refine(aE h1).trans ?_
  split at h
  ·cases h
  rename_i h2
  split at h
  ·rename_i h3;exact absurd h h3
  rename_i h3
  exact(aA h2).trans ((aA h3).trans (aPI hm h))
 ·rename_i h1
  exact(aA h1).trans h
theorem aPV (hm:∀x∈b.ol,x∈m) {t:HF} (h:BU b t=0):BU (TN b m) t=0:=by
 unfold BU at h ⊢
 split at h
 ·cases h
 rename_i h1
 split at h
 ·cases h
 rename_i h2
 split at h
 ·cases h
 rename_i h3
 refine(aA h1).trans ((aA h2).trans ((aA h3).trans ?_))
 by_cases h4:t.k=1
 ·rw[aE h4] at h;exact(aE h4).trans h
 rw[aA h4] at h
 refine(aA h4).trans ?_
 by_cases h5:t.k=3
 ·rw[aE h5] at h
  refine(aE h5).trans ?_
  split at h
  ·cases h
  rename_i h6
  split at h
  ·cases h
  rename_i h7
  split at h
  ·rename_i h8;exact absurd h h8
  rename_i h8
  exact(aA h6).trans ((aA h7).trans ((aA (ne0 h8 (FG hm _ _))).trans h))
 ·rw[aA h5] at h;exact(aA h5).trans h
theorem aEL (hm:∀x∈b.ol,x∈m):∀l:List EZ,tB b l=0->tB (TN b m) l=0
 |[],_=>by simp only[tB]
 |s::l,h=>by
  simp only[tB] at h ⊢
  split at h
  ·rename_i e;exact absurd h e
  ·rename_i e;exact(aA (ne0 e (aPO hm))).trans (aEL hm l h)
theorem aDB (hm:∀x∈b.ol,x∈m):∀l:List mP,uG b l=0->uG (TN b m) l=0
 |[],_=>by simp only[uG]
 |x::l,h=>by
  simp only[uG] at h ⊢
  split at h
  ·cases h
  rename_i h1
  split at h
  ·rename_i e;exact absurd h e
  rename_i h2
  split at h
  ·rename_i e;exact absurd h e
  rename_i h3
  exact(aA h1).trans ((aA (ne0 h2 (aEL hm _))).trans ((aA (ne0 h3 (aPV hm))).trans (aDB hm l h)))
theorem aNV (hm:∀x∈b.ol,x∈m) (hc:jA m b.rg.length=0) (h:qJ b=0):qJ (TN b m)=0:=by
 have hd:oI b=0->oI (TN b m)=0:=fun h=>by
  unfold oI at h ⊢
  split at h
  ·cases h
  rename_i h1
  split at h
  ·rename_i e;exact absurd h e
  rename_i h2
  split at h
  ·rename_i e;exact absurd (Int.ofNat_eq_zero.1 h) e
  rename_i h3
  exact(aA h1).trans ((aA h2).trans ((aA fun e=>e hc).trans h))
 unfold qJ at h ⊢
 split at h
 ·rename_i e;exact absurd h e
 rename_i e
 exact(aA (ne0 e hd)).trans (aDB hm _ h)
end
theorem aAK {n:Int}:∀{l:List (Int×Int)} {q:Option (Int×Int)},zW n q l=0->(∀x∈l,cE n x.1/\cE n x.2/\x.1≠x.2)/\l.Pairwise ltP/\∀q',q=some q'->∀x∈l,ltP q' x
 |[],_,_=>⟨fun x hx=>by simp at hx,List.Pairwise.nil,fun _ _ x hx=>by simp at hx⟩
 |p::l,q,h=>by
  simp only[zW] at h
  split at h
  ·cases h
  rename_i h1
  split at h
  ·cases h
  rename_i h2
  split at h
  ·rename_i h3
   obtain⟨i1,i2,i3⟩:=aAK h
   have i3:=i3 p rfl
   refine⟨fun x hx=>?_,wW.2 ⟨i3,i2⟩,fun q' e x hx=>?_⟩
   ·rcases dJ.1 hx with rfl|hx
    ·exact⟨by unfold cE;omega,by unfold cE;omega,h2⟩
    ·exact i1 x hx
   ·subst e
    have h4:sJ q' p:=CV h3
    rcases dJ.1 hx with rfl|hx
    ·exact h4
    ·have h5:=i3 x hx
     unfold ltP at h5 ⊢;unfold sJ at h4;omega
  ·cases h
theorem aGQ {n:Int}:∀{l:List (Int×Int)} {q:Option (Int×Int)},(∀x∈l,cE n x.1/\cE n x.2/\x.1≠x.2)->l.Pairwise ltP->(∀q',q=some q'->∀x∈l,ltP q' x)->zW n q l=0
 |[],_,_,_,_=>rfl
 |p::l,q,h1,h2,h3=>by
  have hp:=h1 p (AK ..)
  obtain⟨h4,h5⟩:=wW.1 h2
  have hq:VW q p=true:=by
   cases q with
   |none=>rfl
   |some q'=>exact bG (h3 q' rfl p (AK ..))
  simp only[zW]
  rw[aA (by unfold cE at hp;omega),aA hp.2.2,aE hq]
  exact aGQ (fun x hx=>h1 x (gY _ hx)) h5 fun q' e x hx=>by injection e with e;rw[<-e];exact h4 x hx
def UG (b:cT) (p:Int×Int):List (Int×Int):=iH (b.ol++[p])
theorem aHz (b:cT) (p:Int×Int):∀x∈b.ol,x∈UG b p:=fun x hx=>uP.2 (yH _ hx)
theorem aHy {b:cT} (ts:Ts b) {p:Int×Int} (h1:cE b.rg.length p.1) (h2:cE b.rg.length p.2) (h3:p.1≠p.2) (h4:p∉b.ol):
  jA (UG b p) b.rg.length=0/\∀x∈UG b p,cE b.rg.length x.1/\cE b.rg.length x.2:=by
 have hc:=(JC (uY ts.ch).1).2.2.1
 have hl:=ts.sk.ol
 unfold jA at hc
 rw[aA (by omega)] at hc
 obtain⟨i1,i2,_⟩:=aAK hc
 have IK:(b.ol++[p]).Nodup:=by
  rw[yI]
  refine⟨i2.imp fun {x y} h e=>?_,by simp,fun x hx y hy e=>?_⟩
  ·subst e;unfold ltP at h;omega
  ·rw[cR.1 hy] at e;exact h4 (e▸hx)
 have rJ:∀x∈UG b p,cE b.rg.length x.1/\cE b.rg.length x.2/\x.1≠x.2:=fun x hx=>by
  rcases bV.1 (uP.1 hx) with h|h
  ·exact i1 x h
  ·rw[cR.1 h];exact⟨h1,h2,h3⟩
 refine⟨?_,fun x hx=>⟨(rJ x hx).1,(rJ x hx).2.1⟩⟩
 unfold jA
 rw[aA (by unfold UG;rw[jJ,bN];show ¬65535<_+1;omega)]
 exact aGQ rJ (aBQ IK) fun q' e=>by cases e
theorem aR6 {b:cT} (ts:Ts b) {p:Int×Int} (h1:cE b.rg.length p.1) (h2:cE b.rg.length p.2) (h3:p.1≠p.2) (h4:p∉b.ol):Tb (TN b (UG b p)):=by
 have t:=ts.tb
 have hl:=ts.sk.ol
 obtain⟨hc,hi⟩:=aHy ts h1 h2 h3 h4
 have jY:(UG b p).length=b.ol.length+1:=by unfold UG;rw[jJ,bN];rfl
 obtain⟨o1,o2,o3,o5,o6,o7⟩:=id ts.ok
 have ok:AG (TN b (UG b p)):=⟨o1,by show dO (UG b p).length;rw[jY];unfold dO;omega,o3,o5,o6,o7⟩
 exact {
  ok:=ok
  sb:=⟨ok,t.sb.nm,t.sb.rs,t.sb.ls,t.sb.ts⟩
  ck:=⟨t.ck.wt,t.ck.rf,t.ck.wl,t.ck.ar,t.ck.tl,hi,by show(UG b p).length<=_;omega,t.ck.rgl,t.ck.lcl,o6⟩
  ch:=aNV (aHz b p) hc ts.ch
  cn:=t.cn
  lc:=t.lc
  rg:=t.rg
  ar:=t.ar}
def ClR (T:TypeId) (sz:Nat) (els:List (List D)) (H:aC) (d:D) (H':aC):Prop:=(d=.val (.slice none 0 0)/\els=[]/\H'=H)\/∃b o,H b=none/\d=.os b o sz 0 els.length/\H'=H.bH b (.row T o sz els)
def ClA (T:TypeId) (sz:Nat) (els:List (List D)) (d:D) (A:aC):Prop:=(A=aC.none/\d=.val (.slice none 0 0)/\els=[])\/∃b o,A=aC.none.bH b (.row T o sz els)/\d=.os b o sz 0 els.length
theorem aNR {v:D} {P:Prop} {R:Nat->Nat->aC} {V:Nat->Nat->D} {p:D->aC->Prop}:(∀d A,((A=aC.none/\d=v/\P)\/∃b o,A=R b o/\d=V b o)->p d A)=((P->p v aC.none)/\∀b o,p (V b o) (R b o)):=propext
 ⟨fun h=>⟨fun hp=>h _ _ (.inl ⟨rfl,rfl,hp⟩),fun b o=>h _ _ (.inr ⟨b,o,rfl,rfl⟩)⟩,fun h d A e=>by
  rcases e with⟨rfl,rfl,hp⟩|⟨b,o,rfl,rfl⟩
  ·exact h.1 hp
  ·exact h.2 b o⟩
theorem evX {P Q:Prop} (hq:Q) (h:Q->P:=by intro h;simp (maxSteps:=4000000) only[vX,vB,vT,vZ,oN,kV,mmV,O6,RT,mB,jI,kW,↓nV,OS,eG,W8,QF,U2,yQ,yM,AQ,AR,sF,qE,sE,oL,D.nilPtr,D.nK,D.mY,jK,UK,U8,K3,nH,rE,fieldsOf,l3,TW,UA,UB,UC,EP,TK,D.cells,rG,W4,WW,AS,iN,iL,TS,S8,qI,YS,DG,UI,mK,TD.kX,TD.agg,ZY,DI,yN,cpV,wP,AE,AD,UD,TV,tY,BK,gK,iV,Value.oneCell',nY,nW,mR,reduceCtorEq,sB,oA,fO,fW,↓reduceIte,Nat.reduceEqDiff,Int.reduceLE,Int.reduceLT,Int.reduceNeg,Int.reduceToNat,Nat.reduceAdd,Nat.reduceMul,Nat.reduceLeDiff,Nat.reduceMod,Nat.reduceSub,Int.reduceEq,Int.reduceNe,Int.reduceAdd,Int.reduceSub,Int.reduceMul,nX,eY,eX,eN,bW,eQ,lD,fP,jC,kY,j9,jT,jU,jS,aCo,ZO,gdY,gN,St.out,sC,qC,nP,nO,oU,or_true,true_or,zV,u9,↓HI,↓ZP,BS,TX,gC,jV,oS,St.pT,↓aNR,fs];exact h):P:=h hq
theorem ClR.ok {P:Program} {f:FuncId} {args:List D} {T:TypeId} {sz:Nat} {els:List (List D)} (h:∀H,bE P f args H (ClR T sz els H)) (H:aC):eF P f args H (ClA T sz els):=
 E2 (fun gI _=>h gI) fun gI d H' hk=>by
  rcases hk with⟨rfl,he,rfl⟩|⟨b,o,hb,rfl,rfl⟩
  ·exact⟨.none,u7 _,rfl,.inl ⟨rfl,rfl,he⟩⟩
  ·exact⟨aC.none.bH b (.row T o sz els),xQ hb,(qC _ _ _).symm,.inr ⟨b,o,rfl,rfl⟩⟩
open Tryz
theorem aPr (els:List (List D)) (H:aC) (hl:els.length<=1000000):bE prog 16 [.seq 2 els] H (ClR 48 2 els H):=by
 refine aQ _ _ func16 rfl rfl ntmps16 results16 (by simp) fun w0 g0 Q aD=>?_
 refine tq trivial ?_;intro Nx aB Gx aF
 intro b hb
 refine aB _ ?_
 cases b with
 |true=>
  refine tq trivial ?_;intro Nx aB Gx aF
  refine rt aD trivial ?_
  have he:els=[]:=jO fun e=>Bool.noConfusion (hb fun e0=>e (iX e0))
  exact⟨H,aG _,.inl ⟨rfl,he,rfl⟩⟩
 |false=>
  refine tq trivial ?_;intro Nx aB Gx aF
  intro b1 DQ
  refine dD (e:=48) vY rfl vY rfl ML rfl (by decide) (bK (aG _) DQ) (.inr ⟨b1,0,rfl,rfl,DQ,aO _ _ _⟩:Gl H 48 2 [] (.os b1 0 2 0 0) (H.bH b1 (.row 48 0 2 [])) (some b1)) (new:=els) (by exact⟨rfl,rfl⟩) (by rw[wF];show(_+_) * 16<=_;omega) fun d H6 oG j6 eM _=>?_
  refine tq trivial ?_;intro Nx aB Gx aF
  refine rt aD trivial ?_
  rw[gZ] at j6
  rcases j6 with⟨_,rfl,he⟩|⟨c,o,_,rfl,h2,h3⟩
  ·exact⟨H,eM,.inl ⟨rfl,he,rfl⟩⟩
  ·refine⟨H.bH c (.row 48 o 2 els),fun b x hx=>?_,.inr ⟨c,o,h2,rfl,rfl⟩⟩
   by_cases e:b=c
   ·rw[e,aO] at hx;rw[e,h3];exact hx
   ·rw[aN e] at hx;exact eM _ _ hx
end Go.Proofs.YtfiipaodjpiooaaGreatDoor
namespace Go.Proofs.YtfiipaodjpiooaaGreatDoor
open Go.RowKit Go.Sort
open Tryz
theorem aN1 (x y:Int×Int) (W:World):Calls prog 18 #[.agg #[.int .i64 x.1,.int .i64 x.2],.agg #[.int .i64 y.1,.int .i64 y.2]] W fun e w'=>e=.returned (.int .i64 (vD [x.1,x.2] [y.1,y.2]))/\∃q os',w'=grow (W.drewN q) os':=by have h1:=fun a b c d n1 n2 w=>aCe a b c d n1 n2 w;go_enter func18,ntmps18;go_wp2;have u1:=underlying48;have u2:=underlying3;go_quiet ((go_at_call 19;exact Calls.quiet_of_same (h1 x.1 x.2 y.1 y.2 _ _ _ (by simp) (by simp) (by simp) (by simp))));go_wp2;go_ret;exact⟨rfl,_,_,by rw[alloc_eq_grow,alloc_eq_grow,grow_grow] <;> rfl⟩
theorem aXs:aFl 18:=⟨uH func18 rfl rfl,aN1⟩
theorem aOo (b:cT) (a1 a2:UInt8) (ok:AG b):bE prog 6 [.agg (iS b),.agg [.val (.int .u8 (a1.toNat:Int)),.val (.int .u8 (a2.toNat:Int))]] .none fun d _=>d=.val (.bool true):=by
 have TI:=fun H1=>ES b H1 ok
 have CC:=lm sD b.rg
 unfold iS at TI ⊢
 refine aQ _ _ func6 rfl rfl ntmps6 results6 (by simp) fun w0 g0 Q aD=>?_
 refine tq trivial ?_;intro Nx aB Gx aF
 intro c2 lH c3 j5
 refine aB _ ?_
 obtain⟨lK,sH⟩:=bY.1 j5;refine cA 2 rfl ((aN lK.symm).trans (aO _ _ _)) rfl ?_;refine eV _ (HX lH sH lK) ?_;simp only[St.jH,List.drop]
 have N6:=(bY.1 j5).2
 clear lH j5
 refine fZ 3 N6 ?_
 refine tq trivial ?_;intro Nx aB Gx aF
 refine(TI _).mono ?_
 rintro d _ ⟨hd,rfl⟩
 rcases hd with rfl|⟨rfl,ts⟩
 ·refine tq trivial ?_;intro Nx aB Gx aF
  refine(kQ _).mono ?_
  rintro d _ ⟨rfl,rfl⟩
  refine tq trivial ?_;intro Nx aB Gx aF
  refine rt aD trivial ?_
  exact⟨_,aG _⟩
 by_cases h2:b.rg.length<2
 ·have q1:((b.rg.length:Int)<2)=True:=aK (by omega)
  refine tq (dG CC q1) ?_;intro Nx aB Gx aF
  refine(kQ _).mono ?_
  rintro d _ ⟨rfl,rfl⟩
  refine tq trivial ?_;intro Nx aB Gx aF
  refine rt aD trivial ?_
  exact⟨_,aG _⟩
 have q1:((b.rg.length:Int)<2)=False:=aI (by omega)
 have aZE:=ts.rg
 have YE:((b.rg.length:Int)=0)=False:=aI (by omega)
 have wa:IntKind.i64.wrap (a1.toNat:Int)=a1.toNat:=bF (by have:=a1.toNat_lt;omega)
 have wb:IntKind.i64.wrap (a2.toNat:Int)=a2.toNat:=bF (by have:=a2.toNat_lt;omega)
 obtain⟨x,hx⟩:∃a,(a1.toNat:Int).tmod (b.rg.length:Int)=a:=⟨_,rfl⟩
 obtain⟨y,hy⟩:∃a,(a2.toNat:Int).tmod (b.rg.length:Int)=a:=⟨_,rfl⟩
 have hxR:cE b.rg.length x:=hx▸aEP _ (by omega)
 have hyR:cE b.rg.length y:=hy▸aEP _ (by omega)
 refine tq (dG CC q1) ?_;intro Nx aB Gx aF
 refine wE (fun _=>false) (fun _=>false) (fun _ _ _ _=>False) (fun _ _ _ _ _=>False) fun Nx aB=>?_;have fs:=And.intro CC (And.intro YE (And.intro wa (And.intro wb (And.intro hx hy))));refine TU ?_;(first|refine aF _ ?_|refine aB _ ?_|skip);(try clear fs)
 intro c5 lY
 refine aB _ ?_
 refine fZ 5 lY ?_
 show W _ _ _ _
 refine sR (fun s=>s.df=[]/\s.fr 2=.rp [cX b.nm,.seq 1 (b.rg.map sD),.seq 2 (b.ol.map pD),.seq 5 (b.ty.map cP),.seq 2 (b.lc.map mN),i64 b.ag,.seq 7 (b.bl.map jP)]/\s.fr 5=.rp [i64 x,i64 y]/\s.H=aC.none) ⟨rfl,rfl,rfl,rfl⟩ ?_
 clear lY N6
 rintro s ⟨aT,f2,f5,hH⟩
 by_cases hxy:x=y
 ·have q2:(x=y)=True:=aK hxy
  refine tq (eA f5 hH q2) ?_;intro Nx aB Gx aF
  refine(kQ _).mono ?_
  rintro d _ ⟨rfl,rfl⟩
  refine tq trivial ?_;intro Nx aB Gx aF
  refine rt aD aT ?_
  exact⟨_,aG _⟩
 have q2:(x=y)=False:=aI hxy
 have hol:=ts.sk.ol
 have TE:=fun H1=>aBk b.ol (x,y) H1 (by omega)
 simp only at TE
 refine tq (gQ f2 f5 hH q2) ?_;intro Nx aB Gx aF
 refine(TE _).mono ?_
 rintro d _ ⟨rfl,rfl⟩
 by_cases iI:(x,y)∈b.ol
 ·rw[bG iI]
  refine tq trivial ?_;intro Nx aB Gx aF
  refine(kQ _).mono ?_
  rintro d _ ⟨rfl,rfl⟩
  refine tq trivial ?_;intro Nx aB Gx aF
  refine rt aD aT ?_
  exact⟨_,aG _⟩
 rw[bB iI]
 refine tq (dG f2 hH) ?_;intro Nx aB Gx aF
 intro c6 DJ
 refine aB _ ?_
 have k2:∀H,eF prog 16 [.seq 2 (b.ol.map pD)] H (fun d A=>(A=.none/\d=.val (.slice none 0 0)/\b.ol.map pD=[])\/∃c o,A=aC.none.bH c (.row 48 o 2 (b.ol.map pD))/\d=.os c o 2 0 b.ol.length):=fun H=>by
  have h:=ClR.ok (fun H=>aPr (b.ol.map pD) H (by rw[bC];omega)) H
  unfold ClA at h
  rw[bC] at h
  exact h
 show W _ _ _ _
 refine bP ?_
 refine I0 (fun s=>s.df=[]/\s.fr 2=.rp [cX b.nm,.seq 1 (b.rg.map sD),.seq 2 (b.ol.map pD),.seq 5 (b.ty.map cP),.seq 2 (b.lc.map mN),i64 b.ag,.seq 7 (b.bl.map jP)]/\s.fr 5=.rp [i64 x,i64 y]/\s.fr 6=.ep c6 0 7 0 0/\∃d2 ob,s.H c6=some (.row 28 0 7 [[cX b.nm,.seq 1 (b.rg.map sD),d2,.seq 5 (b.ty.map cP),.seq 2 (b.lc.map mN),i64 b.ag,.seq 7 (b.bl.map jP)]])/\ob≠some c6/\Gl aC.none 48 2 ((b.ol++[(x,y)]).map pD) d2 s.H ob) ?_ ?_
 ·refine aCx (fun t=>t==some 52||t==some 54||t==some 55) (fun _=>false) (fun t args d A=>(A=.none/\d=.val (.slice none 0 0)/\b.ol.map pD=[])\/∃c o,A=aC.none.bH c (.row 48 o 2 (b.ol.map pD))/\d=.os c o 2 0 b.ol.length) (fun _ _ _ _ _=>False) (by kernel_rfl) (by kernel_rfl) (by kernel_rfl) (by kernel_rfl) (by kernel_rfl) fun Nx aB=>?_;refine PI ?_;have fs:=And.intro f2 (And.intro f5 hH);refine evX ?_;(try clear fs)
  refine⟨k2 _,fun hn=>?_,fun b1 o1 DQ=>?_⟩
  ·have aYx:b.ol=[]:=List.map_eq_nil_iff.1 hn
   refine dD (e:=48) vY rfl vY rfl ML rfl (by decide) (iY _) (iW _ _ _ _) (new:=[[i64 x,i64 y]]) (by exact⟨rfl,rfl⟩) (by show(0+1) * 16<=_;omega) fun d3 H3 YX TF qY qS=>?_
   have h6:=qS c6 _ (aO _ _ _) (by simp)
   have h60:=h6.1
   have TG:=TF
   rcases TF with⟨_,_,h⟩|⟨cc,oo,_,rfl,_,_⟩
   ·simp at h
   (have fs:=h60;refine qK ?_;try clear fs);(first|refine aF _ ?_|refine aB _ ?_|skip)
   rw[eQ]
   refine⟨aT,f2,f5,rfl,_,YX,aO _ _ _,h6.2,?_⟩
   rw[aYx]
   exact TG.fS fun c e=>aN fun e2=>h6.2 (by rw[e,e2])
  ·have n16:c6≠b1:=nZ (aO _ _ _) DQ
   refine dD (e:=48) vY rfl vY rfl ML rfl (by decide) (iY _) (.inr ⟨b1,o1,rfl,by rw[bC],rfl,aO _ _ _⟩) (els:=b.ol.map pD) (new:=[[i64 x,i64 y]]) (by exact⟨rfl,rfl⟩) (by rw[bC];show(_+1) * _<=_;omega) fun d3 H3 YX TF qY qS=>?_
   have h6:=qS c6 _ ((aN n16).trans (aO _ _ _)) (fun e=>n16 (by injection e with e;exact e.symm))
   have h60:=h6.1
   have TG:=TF
   rcases TF with⟨_,_,h⟩|⟨cc,oo,_,rfl,_,_⟩
   ·simp at h
   (have fs:=h60;refine qK ?_;try clear fs);(first|refine aF _ ?_|refine aB _ ?_|skip)
   rw[eQ]
   refine⟨aT,f2,f5,rfl,_,YX,aO _ _ _,h6.2,?_⟩
   rw[cQ]
   exact TG.fS fun c e=>aN fun e2=>h6.2 (by rw[e,e2])
 clear aT f2 f5 hH
 rintro s ⟨aT,f2,f5,f6,d2,ob,h6,kN,hg⟩
 rcases hg with⟨_,_,h⟩|⟨c,o,rfl,rfl,AL,hc⟩
 ·simp at h
 rw[bC] at h6
 have ND:(UG b (x,y)).length=(b.ol++[(x,y)]).length:=jJ _
 have hso:((UG b (x,y)).map pD).length=(b.ol++[(x,y)]).length:=by rw[bC,ND]
 have rJ:(b.ol++[(x,y)]).length=b.ol.length+1:=by rw[bN];rfl
 have gV:=fun H1=>I9 ts.tb H1
 have X2:=fun H1=>I9 (aR6 ts hxR hyR hxy iI) H1
 have hkc:=fun H1=>aAl (UG b (x,y)) b.rg.length H1 (by rw[ND,rJ];omega)
 rw[(aHy ts hxR hyR hxy iI).1] at hkc
 have JQ:∀z∈rZ b,z∈rZ (TN b (UG b (x,y))):=fun z hz=>aMS (aHz b (x,y)) hz
 have BT:∀b':cT,(mO b').length<=bZ (dK b'):=fun b'=>HY b'
 have hV1:(rZ b).length<=3600:=by
  have h1:=zF (VP b) (mO b).length (bZ (dK b))
  have h2:=HY b
  have h3:=ts.cn
  have h4:(mO b).length * bZ (dK b)<=60 * 60:=pW (by omega) h3
  show(tO _ _ _).length<=_
  omega
 have hV2:(rZ (TN b (UG b (x,y)))).length<=3600:=by
  have h1:=zF (VP (TN b (UG b (x,y)))) (mO b).length (bZ (dK b))
  have h2:=HY b
  have h3:=ts.cn
  have h4:(mO b).length * bZ (dK b)<=60 * 60:=pW (by omega) h3
  show(tO (mO b).length (bZ (dK b)) _).length<=_
  omega
 unfold iS at gV
 obtain⟨V2,aYC⟩:∃V2,V2=rZ (TN b (UG b (x,y))):=⟨_,rfl⟩
 obtain⟨V1,aYB⟩:∃V1,V1=rZ b:=⟨_,rfl⟩
 rw[<-aYC] at X2 JQ hV2
 rw[<-aYB] at gV JQ hV1
 simp only[iS,TN] at X2
 refine tq (dG f6 h6) ?_;intro Nx aB Gx aF
 refine(MI (l:=b.ol++[(x,y)]) aXs hc (by omega)).mono ?_
 rintro d _ ⟨rfl,rfl⟩
 have n6c:c6≠c:=fun e=>kN (by rw[e])
 refine aCt 6 aC.none (.rp [cX b.nm,.seq 1 (b.rg.map sD),.seq 2 ((UG b (x,y)).map pD),.seq 5 (b.ty.map cP),.seq 2 (b.lc.map mN),i64 b.ag,.seq 7 (b.bl.map jP)]) (iY _) (by show GB _ _ (s.fr 6) _;rw[f6];exact aNk (b:=b) (m:=UG b (x,y)) ((aN n6c).trans h6) kN (.inr ⟨c,o,rfl,by rw[hso],AL,aO _ _ _⟩)) ?_
 refine tq f2 ?_;intro Nx aB Gx aF
 refine(gV _).mono ?_
 rintro d _ ⟨rfl,rfl⟩
 refine tq trivial ?_;intro Nx aB Gx aF
 refine(X2 _).mono ?_
 rintro d _ ⟨rfl,rfl⟩
 have hVm:(V1.map pD).length=V1.length:=bC _
 refine tq hVm ?_;intro Nx aB Gx aF
 refine aZ V1.length (fun i s=>s.df=[]/\s.fr 6=.rp [cX b.nm,.seq 1 (b.rg.map sD),.seq 2 ((UG b (x,y)).map pD),.seq 5 (b.ty.map cP),.seq 2 (b.lc.map mN),i64 b.ag,.seq 7 (b.bl.map jP)]/\s.fr 8=i64 0/\s.fr 9=.seq 2 (V2.map pD)/\s.fr 10=i64 0/\s.fr 71=.seq 2 (V1.map pD)/\s.fr 72=i64 V1.length/\s.fr 73=i64 i/\s.H=aC.none) ⟨aT,rfl,rfl,rfl,rfl,rfl,rfl,rfl,rfl⟩ ?_
 clear aT f2 f5 f6 h6 kN AL hc
 rintro i s hi ⟨aT,f6,f8,f9,f10,f71,f72,f73,hH⟩
 have hxi:=bI i
 have cJ:=bM i
 by_cases aV:i<V1.length
 case neg=>
  have q6:=lF i V1.length (by omega)
  refine tq (eA f72 f73 q6) ?_;intro Nx aB Gx aF
  refine(kQ _).mono ?_
  rintro d _ ⟨rfl,rfl⟩
  refine tq (gQ f6 f8 f10 CC) ?_;intro Nx aB Gx aF
  refine(hkc _).mono ?_
  rintro d _ ⟨rfl,rfl⟩
  refine tq trivial ?_;intro Nx aB Gx aF
  refine rt aD aT ?_
  exact⟨_,aG _⟩
 have cC:(i:Int)<(V1.length:Int):=by omega
 have q6:((i:Int)<(V1.length:Int))=True:=aK cC
 have w3:=wS i (by omega)
 have cD:(V1.map pD)[i]?=some (pD V1[i]):=fY aV
 have aRE:=JQ V1[i] (bU aV)
 obtain⟨z,hzz⟩:∃z,z=V1[i]:=⟨_,rfl⟩
 rw[<-hzz] at cD aRE
 obtain⟨z1,z2⟩:=z
 simp only[pD] at cD
 have hcq:=fun H1=>aBk V2 (z1,z2) H1 (by omega)
 rw[bG aRE] at hcq
 simp only at hcq
 refine tq (nN f71 f72 f73 hVm q6 cD hxi cJ aV cC) ?_;intro Nx aB Gx aF
 intro c12 aBt
 refine aB _ ?_
 refine fZ 12 aBt ?_
 refine tq (dG f9 hH) ?_;intro Nx aB Gx aF
 refine(hcq _).mono ?_
 rintro d _ ⟨rfl,rfl⟩
 refine tq (dG f73 w3) ?_;intro Nx aB Gx aF
 exact⟨aV,aT,f6,f8,f9,f10,f71,f72,rfl,rfl⟩
theorem DY (x0:X) (v0:Value) (x1:X) (v1:Value) (w:World) (o0:DT.ok (DT.struct [DT.string,DT.slice 1 16 (DT.string),DT.slice 2 16 (DT.array 2 (DT.int .i64)),DT.slice 5 56 (DT.struct [DT.int .i64,DT.bool,DT.int .i64,DT.int .i64,DT.slice 1 8 (DT.int .i64)]),DT.slice 2 24 (DT.struct [DT.string,DT.int .i64]),DT.int .i64,DT.slice 7 128 (DT.struct [DT.slice 11 136 (DT.struct [DT.int .i64,DT.struct [DT.int .i64,DT.slice 2 16 (DT.struct [DT.int .i64,DT.int .i64])],DT.struct [DT.int .i64,DT.int .i64,DT.int .i64,DT.bool,DT.struct [DT.int .i64,DT.slice 2 16 (DT.struct [DT.int .i64,DT.int .i64])],DT.slice 4 48 (DT.struct [DT.int .i64,DT.struct [DT.int .i64,DT.slice 2 16 (DT.struct [DT.int .i64,DT.int .i64])],DT.int .i64])],DT.int .i64]),DT.struct [DT.int .i64,DT.slice 1 8 (DT.int .i64),DT.slice 4 48 (DT.struct [DT.int .i64,DT.struct [DT.int .i64,DT.slice 2 16 (DT.struct [DT.int .i64,DT.int .i64])],DT.int .i64]),DT.struct [DT.int .i64,DT.slice 2 16 (DT.struct [DT.int .i64,DT.int .i64])],DT.string]])]) x0) (i0:D.is w aC.none.others x0.d v0) (o1:DT.ok (DT.array 2 (DT.int .u8)) x1) (i1:D.is w aC.none.others x1.d v1) (hG:DW w aC.none):
  Calls prog 6 #[v0,v1] w fun e w'=>e=.returned (.bool true)/\Below w.heap.size w w':=by
 obtain⟨a,ha,YF⟩:=J2 o0
 simp only[DT.ok] at o1
 obtain⟨xs,rfl,hxl,RK⟩:=o1
 match xs,hxl,RK with
 |[y1,y2],_,RK=>
  obtain⟨c1,rfl⟩:=aMo (show DT.ok (.int .u8) y1 from by simp only[DT.ok];exact RK y1 (by simp))
  obtain⟨c2,rfl⟩:=aMo (show DT.ok (.int .u8) y2 from by simp only[DT.ok];exact RK y2 (by simp))
  rw[ha] at i0
  exact KI (aOo a c1 c2 YF) ⟨_,_,rfl,i0,_,_,rfl,i1,rfl⟩ hG
end Go.Proofs.YtfiipaodjpiooaaGreatDoor

