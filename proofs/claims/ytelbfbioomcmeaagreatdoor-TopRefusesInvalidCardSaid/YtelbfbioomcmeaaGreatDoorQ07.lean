/- Lemmas and contracts of functions, several texts in one. -/
import Derived.Test.YtelbfbioomcmeaaGreatDoorQ06
set_option maxRecDepth 100000
set_option maxHeartbeats 4000000
set_option linter.all false
namespace Go.Proofs.YtelbfbioomcmeaaGreatDoor
open Go.RowKit
theorem U4 {cx:Cx} {GW:Option Tmp->List D->aA->D->aA->Prop} {s:St} {o:Oper} {K:D->aA->Prop} (hd:BS cx.n o.dst) (h:nP cx.P GW s o K):
  WO cx o (fun s'=>∃d H',K d H'/\s'=s.nA o d H') s:=by
 refine nO hd ?_
 unfold nP at h
 split at h
 ·rename_i t x y e
  unfold dM
  rw[e]
  exact(XD cx.P s.H t (s.ev x) (s.ev y)).2 K (fun d H'=>∃d' eL,K d' eL/\(s.dW H').put o.dst d=s.nA o d' eL) (fun d H' hk=>⟨d,H',hk,rfl⟩) h
 ·rename_i t x i y e
  unfold dM
  rw[e]
  exact(WY cx.P s.H t (s.ev x) (s.ev i) (s.ev y)).2 K (fun d H'=>∃d' eL,K d' eL/\(s.dW H').put o.dst d=s.nA o d' eL) (fun d H' hk=>⟨d,H',hk,rfl⟩) h
 ·rename_i c e
  unfold dM
  rw[e]
  simp only
  unfold TL
  split at h
  ·rename_i hc
   rw[hc]
   simp only[MM]
   split at h
   ·rename_i t xt x y ht hx
    simp only[ht,hx]
    split at h
    ·exact h.elim
    ·rename_i hni
     split
     ·rename_i he
      exact absurd he (hni _ _ _ _)
     ·exact(VG cx.P s.H t xt x y).2 K (fun d H'=>∃d' eL,K d' eL/\(s.dW H').put o.dst d=s.nA o d' eL) (fun d H' hk=>⟨d,H',hk,rfl⟩) h
   ·exact h.elim
  ·rename_i hc
   rw[hc]
   simp only[MM]
   split at h
   ·rename_i t xt x y ht hx
    simp only[ht,hx]
    exact(P3 cx.P s.H t x y).2 K (fun d H'=>∃d' eL,K d' eL/\(s.dW H').put o.dst d=s.nA o d' eL) (fun d H' hk=>⟨d,H',hk,rfl⟩) h
   ·exact h.elim
  ·rename_i f hc
   rw[hc]
   simp only
   split at h
   ·rename_i g dO hf
    simp only[hf]
    exact h.1.mono fun d H' hg=>⟨d,H',h.2 d H' hg,rfl⟩
   ·exact h.elim
  ·exact h.elim
 ·exact h.elim
theorem QD {cx:Cx} {GW:Option Tmp->List D->aA->D->aA->Prop} {aV:List Oper} {s:St} {i:Nat} {o:Oper} {K:D->aA->Prop} (eX:eP cx.n aV=true) (ho:aV[i]?=some o) (h:gW cx.P GW aV.toArray s o K)
  {a:Act} {w:World} (m:cH cx s a w) {Q:Exit->Act->World->Prop}:
  wpOpIn (FR cx.ro) 9 cx.P aV.toArray Q i (fun a' w'=>∃d H',K d H'/\cH cx (s.nA o d H') a' w') a w:=by
 have eW:∀o'∈aV,BS cx.n o'.dst:=fun o' J0=>by
  have:=(eD.1 eX) o' J0
  unfold BS
  cases hq:o'.dst with
  |none=>trivial
  |some t=>rw[hq] at this;simpa using this
 have hd:=eW o (jQ ho)
 have run:∀{K:D->aA->Prop},nP cx.P GW s o K->o.wpIn (FR cx.ro) 9 cx.P a w (fun a' w'=>∃d H',K d H'/\cH cx (s.nA o d H') a' w') Q:=fun hc=>
  Oper.wpIn_mono (fun a' w' ⟨s',m',d,A,h1,h3⟩=>⟨d,A,h1,h3▸m'⟩) (zK (U4 hd hc a w m))
 have skip:K (.val undef) s.H->∃d H',K d H'/\cH cx (s.nA o d H') (a.put o.dst undef) w:=fun hk=>
  ⟨_,s.H,hk,m.put (hU hd) (by simp only[D.is])⟩
 unfold wpOpIn
 have J0:aV.toArray[i]?=some o:=by simpa using ho
 rw[J0]
 simp only
 unfold gW at h
 split at h
 ·rename_i hg
  have hw:Region.wanted o (yielded aV.toArray a.tmps)=true:=by simp [Region.wanted,hg]
  rw[aH hw]
  exact run h
 ·rename_i j eC hg
  have Q8:Region.wanted o (yielded aV.toArray a.tmps)=(yielded aV.toArray a.tmps j==some eC):=by unfold Region.wanted;rw[hg]
  split at h
  ·rename_i t ht
   have htn:t<cx.n:=by
    unfold mF at ht
    cases hj:aV.toArray[j]? with
    |none=>rw[hj] at ht;cases ht
    |some o'=>
     rw[hj] at ht
     have:=eW o' (by have:=zP hj;simpa using this)
     simp at ht
     rw[ht] at this
     exact this
   have hy:yielded aV.toArray a.tmps j=match a.tmps[t]? with|some (.bool b)=>some b|_=>none:=by
    unfold yielded
    unfold mF at ht
    rw[ht]
    rfl
   have J2:t<a.tmps.size:=by rw[m.n];exact htn
   have nY:a.tmps[t]?=some (a.tmps.getD t undef):=by simp [J2]
   have hf:=m.fr t
   split at h
   ·rename_i b hb
    rw[sR] at h
    rw[hb] at hf
    simp only[D.is] at hf
    rw[nY,hf] at hy
    simp only at hy
    rw[hy] at Q8
    by_cases e:b=eC
    ·rw[aH (by rw[Q8,e];simp)]
     exact run (h.1 e)
    ·have e2:b= !eC:=by cases b <;> cases eC <;> first|rfl|exact absurd rfl e
     rw[aD (by rw[Q8,e2];cases eC <;> simp)]
     exact⟨kI,skip (h.2 e2)⟩
   ·rename_i hb
    rw[hb] at hf
    simp only[D.is] at hf
    rw[nY,hf] at hy
    simp only at hy
    rw[hy] at Q8
    rw[aD (by rw[Q8];simp)]
    exact⟨kI,skip h⟩
   ·exact h.elim
  ·exact h.elim
section
variable {cx:Cx} {fl wc:Option Tmp->Bool} {G:Option Tmp->List D->D->aA->Prop} {GW:Option Tmp->List D->aA->D->aA->Prop} {aV:List Oper} {Q:St->Prop}
theorem LX {o:Oper} (eX:eP cx.n aV=true) (hc:iK wc o=false):∀{pre post:List Oper} {H:aA} {s:St} {a:Act} {w:World},(∀p∈pre,tC aV.toArray p o/\p∈aV/\iK wc p=false)->BY cx.P fl wc G GW aV.toArray Q H (pre++o::post) s->
  H.le s.H->cH cx s a w->o8 cx.P G (wY fl H o) aV.toArray s o fun _ _=>True
 |[],post,H,s,a,w,_,h,_,_=>by
  simp only[fR,BY,hc,jT,fE] at h
  exact(xV _ _ _ _ _ _).2 _ _ (fun _ _ _=>trivial) h
 |p::pre,post,H,s,a,w,hi,h,aR,m=>by
  obtain⟨F7,hpo,hpc⟩:=hi p (by simp)
  simp only[eT,BY,hpc,jT,fE] at h
  obtain⟨i,hpi⟩:=uG hpo
  obtain⟨a',w',d,A,hk,hA,m'⟩:=qJ (tK (Q:=NoQ) (IK aR) eX hpi h m)
  have ih:=LX eX hc (fun q hq=>hi q (by simp [hq])) (hk hA) (by rw[nB];exact tR aR (AB hA)) m'
  have iP:o8 cx.P G (wY fl H o) aV.toArray (s.out p d A) o=o8 cx.P G (wY fl H o) aV.toArray s o:=F4 fun t ht=>jM fun e=>(F7.1 t e).1 ht
  rw[iP] at ih
  exact ih
theorem EL {o:Oper} (eX:eP cx.n aV=true) (hf:mG fl o=true):∀{pre post:List Oper} {H:aA} {s:St} {a:Act} {w:World},(∀p∈pre,tC aV.toArray p o/\p∈aV)->BY cx.P fl wc G GW aV.toArray Q H (pre++o::post) s->
  H.le s.H->cH cx s a w->o8 cx.P G (wY fl H o) aV.toArray s o fun _ _=>True
 |[],post,H,s,a,w,_,h,_,_=>by
  simp only[fR,BY,yS hf,jT,fE] at h
  exact(xV _ _ _ _ _ _).2 _ _ (fun _ _ _=>trivial) h
 |p::pre,post,H,s,a,w,hi,h,aR,m=>by
  obtain⟨F7,hpo⟩:=hi p (by simp)
  obtain⟨i,hpi⟩:=uG hpo
  simp only[eT,BY] at h
  split at h
  ·obtain⟨a',w',d,H',hk,m'⟩:=qJ (QD (Q:=NoQ) eX hpi h m)
   have ih:=EL eX hf (fun q hq=>hi q (by simp [hq])) hk (by rw[OG];exact aE _) m'
   have iP:o8 cx.P G (wY fl H' o) aV.toArray (s.nA p d H') o=o8 cx.P G (wY fl H' o) aV.toArray s o:=F4 fun t ht=>C3 fun e=>(F7.1 t e).1 ht
   rw[iP,D6 (H':=H) hf] at ih
   exact ih
  ·obtain⟨a',w',d,A,hk,hA,m'⟩:=qJ (tK (Q:=NoQ) (IK aR) eX hpi h m)
   have ih:=EL eX hf (fun q hq=>hi q (by simp [hq])) (hk hA) (by rw[nB];exact tR aR (AB hA)) m'
   have iP:o8 cx.P G (wY fl H o) aV.toArray (s.out p d A) o=o8 cx.P G (wY fl H o) aV.toArray s o:=F4 fun t ht=>jM fun e=>(F7.1 t e).1 ht
   rw[iP] at ih
   exact ih
theorem LY {o:Oper} (eX:eP cx.n aV=true) (hw:iK wc o=true):∀{pre post:List Oper} {H:aA} {s:St} {a:Act} {w:World},(∀p∈pre,tC aV.toArray p o/\p∈aV/\mG fl p=true)->BY cx.P fl wc G GW aV.toArray Q H (pre++o::post) s->
  H.le s.H->cH cx s a w->gW cx.P GW aV.toArray s o fun _ _=>True
 |[],post,H,s,a,w,_,h,_,_=>by
  simp only[fR,BY,aH hw] at h
  exact(TV _ _ _ _ _).2 _ _ (fun _ _ _=>trivial) h
 |p::pre,post,H,s,a,w,hi,h,aR,m=>by
  obtain⟨F7,hpo,hpf⟩:=hi p (by simp)
  obtain⟨i,hpi⟩:=uG hpo
  simp only[eT,BY,yS hpf,jT,fE] at h
  obtain⟨a',w',d,A,⟨rfl,hk⟩,hA,m'⟩:=qJ (tK (Q:=NoQ) (IK aR) eX hpi (D7 hpf h) m)
  have ih:=LY eX hw (fun q hq=>hi q (by simp [hq])) (hk hA) (by rw[nB,qY];exact aR) m'
  have iP:gW cx.P GW aV.toArray (s.out p d .none) o=gW cx.P GW aV.toArray s o:=aBT (by rw[nB,qY]) fun t ht=>jM fun e=>(F7.1 t e).1 ht
  rw[iP] at ih
  exact ih
end
def FU (aV:List Oper):List Nat:=aV.foldl (fun acc o=>acc++[o.after.toList.foldl (fun m e=>if Region.binds .any e then m|||(1<<<e.on)|||acc.getD e.on 0 else m) 0]) []
def JL (aV:List Oper) (OU:List Nat):Bool:=aV.zipIdx.all fun (o,j)=>(List.range j).all fun i=> !((OU.getD j 0).testBit i)||
 o.after.toList.any fun e=>Region.binds .any e&&(e.on==i||(decide (i<e.on)&&(OU.getD e.on 0).testBit i))
def RU (fl wc:Option Tmp->Bool) (aV:List Oper) (OU:List Nat):Bool:=aV.zipIdx.all fun (o,j)=>(aV.take j).zipIdx.all fun (p,i)=>
 (OU.getD j 0).testBit i|| !((iK wc p&& !mG fl o)||(iK wc o&& !mG fl p))
theorem aFn {aV:List Oper} {OU:List Nat} (EF:JL aV OU=true) (mX:tJ aV=true) {R:List Nat} (B2:∀(k:Nat) (o:Oper),aV[k]?=some o->k∉R->∀e∈o.after.toList,Region.binds .any e=true->e.on∉R):
  ∀(j:Nat) (o:Oper),aV[j]?=some o->(∀e∈o.after.toList,Region.binds .any e=true->e.on∉R)->∀i,i<j->(OU.getD j 0).testBit i=true->i∉R:=by
 intro j
 induction j using Nat.strongRecOn with
 |ind j ih=>
  intro o ho he i hi hb
  have:=(eD.1 EF) (o,j) (BZ.2 (by simpa using ho))
  have:=(eD.1 this) i (rM.2 hi)
  simp only[hb,wF,wG] at this
  obtain⟨e,hem,h3⟩:=List.any_eq_true.1 this
  simp only[eF,zW,wL,jU] at h3
  obtain⟨hbe,h4⟩:=h3
  have aDz:=he e hem hbe
  rcases h4 with rfl|⟨gL,h5⟩
  ·exact aDz
  ·have hej:=lQ mX ho e hem hbe
   have kR:j<aV.length:=(kD.1 ho).1
   obtain⟨o',J0⟩:∃o',aV[e.on]?=some o':=⟨aV[e.on],cP (by omega)⟩
   exact ih e.on hej o' J0 (B2 e.on o' J0 aDz) i gL h5
theorem UQ {fl wc:Option Tmp->Bool} {aV:List Oper} {OU:List Nat} (h:RU fl wc aV OU=true) {i j:Nat} {p o:Oper} (hij:i<j) (hp:aV[i]?=some p) (ho:aV[j]?=some o) (hnb:¬(OU.getD j 0).testBit i=true):
  (iK wc p=true->mG fl o=true)/\(iK wc o=true->mG fl p=true):=by
 have:=(eD.1 h) (o,j) (BZ.2 (by simpa using ho))
 have:=(eD.1 this) (p,i) (BZ.2 (by simp only[nU];rw[aH hij];exact hp))
 have hb:(OU.getD j 0).testBit i=false:=by simpa using hnb
 simp only[hb,wG] at this
 refine⟨fun e=>?_,fun e=>?_⟩
 ·cases hf:mG fl o with
  |true=>rfl
  |false=>rw[e,hf] at this;simp at this
 ·cases hf:mG fl p with
  |true=>rfl
  |false=>rw[e,hf] at this;simp at this
theorem YV {cx:Cx} {fl wc:Option Tmp->Bool} {G:Option Tmp->List D->D->aA->Prop} {GW:Option Tmp->List D->aA->D->aA->Prop} {aV:List Oper} {OU:List Nat} {Q:Exit->St->Prop}
  (eX:eP cx.n aV=true) (mX:tJ aV=true) (EF:JL aV OU=true) (T2:RU fl wc aV OU=true):∀(hQ:Nat) (R:List Nat) (listed:Array Bool) (H:aA) (s:St) (a:Act) (w:World),
  R.length<=hQ->R.Pairwise (·<·)->listed.size=aV.length->(∀i,i∈R↔i<aV.length/\listed.getD i true=false)->
  (∀(k:Nat) (o:Oper),aV[k]?=some o->k∉R->∀e∈o.after.toList,Region.binds .any e=true->e.on∉R)->
  H.le s.H->cH cx s a w->BY cx.P fl wc G GW aV.toArray (Q .normal) H (R.filterMap (aV[·]?)) s->
  wpAnyIn (FR cx.ro) 9 cx.P .any aV.toArray (QQ cx Q) hQ listed a w:=by
 have stuck:∀(R:List Nat) (listed:Array Bool),R.Pairwise (·<·)->(∀i,i∈R↔i<aV.length/\listed.getD i true=false)->listed.size=aV.length->Region.ready .any aV.toArray listed=[]->R=[]:=by
  intro R listed hp kM lE hr
  rcases R with _|⟨r,R⟩
  ·rfl
  ·exfalso
   have hr1:=(kM r).1 (by simp)
   obtain⟨o,ho⟩:∃o,aV[r]?=some o:=⟨aV[r],by simp [hr1.1]⟩
   have:r∈Region.ready .any aV.toArray listed:=by
    unfold Region.ready
    rw[tP]
    refine⟨by simp;exact hr1.1,?_⟩
    have J0:aV.toArray[r]?=some o:=by simpa using ho
    rw[hr1.2,J0]
    simp only[tQ,cT,jV,wB]
    rw[<-DN,eD]
    intro e he
    cases hb:Region.binds .any e with
    |false=>simp
    |true=>
     have gL:=lQ mX ho e he hb
     have:¬e.on∈r::R:=fun hm=>by
      rw[yK] at hp
      rcases eG.1 hm with h1|h1
      ·omega
      ·have:=hp.1 _ h1;omega
     have h2:listed.getD e.on true=true:=by
      cases hl:listed.getD e.on true with
      |true=>rfl
      |false=>exact absurd ((kM e.on).2 ⟨by omega,hl⟩) this
     have h3:listed.getD e.on false=true:=by
      have TY:e.on<listed.size:=by omega
      simp only[Array.getD,TY,rR] at h2 ⊢
      exact h2
     simp [h3]
   rw[hr] at this
   cases this
 intro hQ
 induction hQ with
 |zero=>
  intro R listed H s a w eB hp lE kM B2 aR m h
  obtain rfl:R=[]:=gP (by omega)
  have sL:Region.ready .any aV.toArray listed=[]:=by
   rw[O0]
   intro i hi
   unfold Region.ready at hi
   rw[tP] at hi
   have h2:=hi.2
   simp only[eF,wA] at h2
   exact absurd ((kM i).2 ⟨by simpa using hi.1,h2.1⟩) (by simp)
  exact⟨sL,s,m,by simpa [BY] using h⟩
 |succ hQ ih=>
  intro R listed H s a w eB hp lE kM B2 aR m h
  refine⟨fun hr=>?_,fun i hi=>?_⟩
  ·obtain rfl:=stuck R listed hp kM lE hr
   exact⟨s,m,by simpa [BY] using h⟩
  ·unfold Region.ready at hi
   rw[tP] at hi
   obtain⟨WD,DU⟩:=hi
   have aZ:i<aV.length:=by simpa using WD
   obtain⟨o,ho⟩:∃o,aV[i]?=some o:=⟨aV[i],by simp [aZ]⟩
   have J0:aV.toArray[i]?=some o:=by simpa using ho
   rw[J0] at DU
   simp only[eF,wA,jV,wB] at DU
   obtain⟨hl,IN⟩:=DU
   have hiR:i∈R:=(kM i).2 ⟨aZ,hl⟩
   have sL:∀e∈o.after.toList,Region.binds .any e=true->e.on∉R:=fun e he hb jX=>by
    rw[<-DN,eD] at IN
    have:=IN e he
    rw[hb] at this
    simp only[wF,wG] at this
    have iQ:=(kM e.on).1 jX
    have TY:e.on<listed.size:=by omega
    simp only[Array.getD,TY,rR] at this iQ
    rw[iQ.2] at this
    cases this
   have aJJ:=aFn EF mX B2 i o ho sL
   obtain⟨pre,post,rfl⟩:=List.append_of_mem hiR
   obtain⟨oA,Q3,hpw⟩:=vQ hp
   have jX:∀p∈pre.filterMap (aV[·]?),tC aV.toArray p o/\p∈aV/\(iK wc p=true->mG fl o=true)/\(iK wc o=true->mG fl p=true):=fun p BP=>by
    obtain⟨k,hk,hkp⟩:=List.mem_filterMap.1 BP
    refine⟨xQ mX (oA k hk) hkp ho fun e he hb hek=>?_,jQ hkp,UQ T2 (oA k hk) hkp ho fun hb=>?_⟩
    ·exact sL e he hb (by rw[hek];simp [hk])
    ·exact aJJ k (oA k hk) hb (by simp [hk])
   have vM:(pre++i::post).filterMap (aV[·]?)=pre.filterMap (aV[·]?)++o::post.filterMap (aV[·]?):=by
    rw[yI,HC,ho]
   rw[vM] at h
   have aBf:∀k,k∈pre++post↔k<aV.length/\(listed.setIfInBounds i true).getD k true=false:=by
    intro k
    have hk:=kM k
    rw[cS,eG] at hk
    rw[cS]
    have gL:i<listed.size:=by omega
    have BM:(listed.setIfInBounds i true).getD k true=if k=i then true else listed.getD k true:=uQ _ _ _ _ _ gL
    rw[BM]
    by_cases e:k=i
    ·subst e
     simp only[fU]
     constructor
     ·rintro(h3|h3)
      ·have:=oA _ h3;omega
      ·have:=Q3 _ h3;omega
     ·rintro⟨_,h3⟩;cases h3
    ·rw[aD e,<-hk]
     constructor
     ·rintro(h3|h3)
      ·exact .inl h3
      ·exact .inr (.inr h3)
     ·rintro(h3|h3|h3)
      ·exact .inl h3
      ·exact absurd h3 e
      ·exact .inr h3
   have T7:∀k,k∈pre++post->k∈pre++i::post:=fun k hk=>by
    rcases cS.1 hk with h1|h1
    ·simp [h1]
    ·simp [h1]
   have IM:∀(k:Nat) (o:Oper),aV[k]?=some o->k∉pre++post->∀e∈o.after.toList,Region.binds .any e=true->e.on∉pre++post:=fun k o2 BO hk e he hb ED=>by
    by_cases hki:k=i
    ·subst hki
     rw[ho] at BO
     injection BO with BO
     subst BO
     exact sL e he hb (T7 _ ED)
    ·refine B2 k o2 BO (fun iQ=>hk ?_) e he hb (T7 _ ED)
     rcases cS.1 iQ with h1|h1
     ·exact cS.2 (.inl h1)
     ·rcases eG.1 h1 with h1|h1
      ·exact absurd h1 hki
      ·exact cS.2 (.inr h1)
   have aBe:(pre++post).length<=hQ:=by simp at eB ⊢;omega
   cases hw:iK wc o with
   |true=>
    have ED:∀p∈pre.filterMap (aV[·]?),tC aV.toArray p o/\p∈aV/\mG fl p=true:=fun p BP=>⟨(jX p BP).1,(jX p BP).2.1,(jX p BP).2.2.2 hw⟩
    have EA:=(TV cx.P GW aV.toArray s o).1 _ (LY eX hw ED h aR m)
    refine wpOpIn_mono ?_ (QD eX ho EA m)
    rintro a' w' ⟨d,H',qA,m'⟩
    have h2:=SR hw (fun p BP=>⟨(ED p BP).1,(ED p BP).2.2⟩) h qA
    exact ih (pre++post) _ H' (s.nA o d H') a' w' aBe hpw (by simpa using lE) aBf IM (by rw[OG];exact aE _) m' (by rw[yI];exact h2)
   |false=>
    by_cases hf:mG fl o=true
    ·have Q4:=EL eX hf (fun p BP=>⟨(jX p BP).1,(jX p BP).2.1⟩) h aR m
     have EA:=D7 hf ((xV cx.P G (wY fl H o) aV.toArray s o).1 _ Q4)
     refine wpOpIn_mono ?_ (tK (IK aR) eX ho EA m)
     rintro a' w' ⟨d,A,⟨rfl,qA⟩,hA,m'⟩
     have h2:=JP hf (fun p BP=>(jX p BP).1) h qA
     exact ih (pre++post) _ H (s.out o d .none) a' w' aBe hpw (by simpa using lE) aBf IM (by rw[nB,qY];exact aR) m' (by rw[yI];exact h2)
    ·have ED:∀p∈pre.filterMap (aV[·]?),tC aV.toArray p o/\p∈aV/\iK wc p=false:=fun p BP=>by
      refine⟨(jX p BP).1,(jX p BP).2.1,?_⟩
      cases hp:iK wc p with
      |false=>rfl
      |true=>exact absurd ((jX p BP).2.2.1 hp) hf
     have EA:=(xV cx.P G (wY fl H o) aV.toArray s o).1 _ (LX eX hw ED h aR m)
     refine wpOpIn_mono ?_ (tK (IK aR) eX ho EA m)
     rintro a' w' ⟨d,A,qA,hA,m'⟩
     have h2:=SQ hw (fun p BP=>⟨(ED p BP).1,(ED p BP).2.2⟩) h qA hA
     exact ih (pre++post) _ H (s.out o d A) a' w' aBe hpw (by simpa using lE) aBf IM (by rw[nB];exact tR aR (AB hA)) m' (by rw[yI];exact h2)
theorem aGC {cx:Cx} {id:Nat} {aV:List Oper} {Q:Exit->St->Prop} {s:St} (fl wc:Option Tmp->Bool) (G:Option Tmp->List D->D->aA->Prop) (GW:Option Tmp->List D->aA->D->aA->Prop) (hm:cx.P.follows .mixedOrders=true)
  (eX:eP cx.n aV=true) (mX:tJ aV=true) (EF:JL aV (FU aV)=true) (T2:RU fl wc aV (FU aV)=true)
  (h:BY cx.P fl wc G GW aV.toArray (Q .normal) s.H aV s):W cx (.region id aV.toArray true) Q s:=fun a w m=>by
 refine wpIn_region_any hm ?_
 have m':cH cx s a w.drew:=m.go (pQ s.H w) m.H.drew
 have e:(List.range aV.length).filterMap (aV[·]?)=aV:=by
  rw[pR (g:=fun i=>aV.getD i default) fun i hi=>by
   have:i<aV.length:=by simpa using hi
   simp [List.getD,this]]
  apply uH
  intro i
  by_cases hi:i<aV.length
  ·simp [hi,List.getD]
  ·simp [hi]
 refine YV eX mX EF T2 _ (List.range aV.length) _ s.H s a _ (by simp) O3 (by simp) (fun i=>?_) (fun k o ho hk=>?_) (aE _) m' (by rw[e];exact h)
 ·simp only[rM,HG]
  constructor
  ·intro hi
   refine⟨hi,?_⟩
   simp [Array.getD,hi]
  ·exact fun h=>h.1
 ·exact absurd (rM.2 (kD.1 ho).1) hk
theorem rG (H:aA):n9 aA.none H=True:=aK (rQ H)
theorem K1 {P:Program} {f:FuncId} {args:List D} {H:aA} {G:D->aA->Prop} {K:aA->D->aA->Prop} (h:∀eL,H.le eL->aT P f args eL (K eL)) (hk:∀eL d H',K eL d H'->∃A,n9 A eL/\H'=eL.add A/\G d A):dY P f args H G:=
 fun eL aR=>(h eL aR).mono fun d H' hh=>hk eL d H' hh
def Vw (H:aA) (d d0:D):Prop:=∀w v,fQ w H->D.is w H.others d v->D.is w aA.none.others d0 v
theorem nG (H:aA) (d:D):Vw H d d:=fun w v _ h=>pN (nI (wJ H) w) d h
theorem aCw {H:aA} {sz:Nat} {d:D} {els:List (List D)} (h:kU H sz d (·=els)):Vw H d (.seq sz els):=fun w v hH hd=>by
 obtain⟨l,A,c,rfl,rfl,QX,xY⟩:=uO hH h hd
 simp only[D.is]
 refine⟨A,c,rfl,QX,?_⟩
 rcases xY with xY|⟨b,o,rfl,hb,hr⟩
 ·exact .inl xY
 ·right
  refine⟨b,o,rfl,rfl,hb,eY fun i el hi=>?_⟩
  obtain⟨g1,g2⟩:=eA hr i el hi
  refine⟨g1,?_⟩
  obtain⟨vs,g3,g4⟩:=dR g2
  exact dV (bV (nI (wJ H) w) _ g3) g4
def Vws (H:aA):List D->List D->Prop
 |[],[]=>True
 |d::ds,e::es=>Vw H d e/\Vws H ds es
 |_,_=>False
theorem aQt {H:aA} {d e:D} (h:Vw H d e):Vws H [d] [e]:=⟨h,trivial⟩
theorem aFU {H:aA} {d e d2 e2:D} (h:Vw H d e) (h2:Vw H d2 e2):Vws H [d,d2] [e,e2]:=⟨h,h2,trivial⟩
theorem aZP {H:aA} {d e d2 e2 d3 e3:D} (h:Vw H d e) (h2:Vw H d2 e2) (h3:Vw H d3 e3):Vws H [d,d2,d3] [e,e2,e3]:=⟨h,h2,h3,trivial⟩
theorem Vws.all {H:aA} {w:World} (hH:fQ w H):∀{ds es:List D} {vs:List Value},Vws H ds es->aW w H.others ds vs->aW w aA.none.others es vs
 |[],[],vs,_,h=>by simp only[aW] at h ⊢;exact h
 |d::ds,e::es,vs,hv,h=>by
  simp only[aW] at h ⊢
  obtain⟨u,us,rfl,h1,h2⟩:=h
  exact⟨u,us,rfl,hv.1 w u hH h1,Vws.all hH hv.2 h2⟩
 |[],_::_,_,hv,_=>hv.elim
 |_::_,[],_,hv,_=>hv.elim
def D.plain:D->Bool
 | .val _=>true
 | .fV ds=>ds.all fun d=>match d with
  | .val _=>true
  |_=>false
 |_=>false
theorem I6 {w w':World} {S S':Nat->Prop}:∀{ds:List D} {vs:List Value},(ds.all fun d=>match d with| .val _=>true|_=>false)=true->aW w S ds vs->aW w' S' ds vs
 |[],_,_,h=>by simp only[aW] at h ⊢;exact h
 |d::ds,vs,hp,h=>by
  simp only[aW] at h ⊢
  obtain⟨u,us,rfl,h1,h2⟩:=h
  simp only[l8,eF] at hp
  refine⟨u,us,rfl,?_,I6 hp.2 h2⟩
  cases d <;> first|(cases hp.1;done)|(simp only[D.is] at h1 ⊢;exact h1)
theorem aCS {w w':World} {S S':Nat->Prop} {d:D} {v:Value} (hp:d.plain=true) (h:D.is w S d v):D.is w' S' d v:=by
 cases d with
 |val u=>simp only[D.is] at h ⊢;exact h
 |fV ds=>
  simp only[D.is] at h ⊢
  obtain⟨vs,rfl,h⟩:=h
  exact⟨vs,rfl,I6 hp h⟩
 |_=>cases hp
theorem aBJ {H:aA} {w w':World} (h:Ev aA.none w aA.none w'):Ev H w H w':=
 ⟨h.os,h.tape,h.output,h.size,fun b hb hn=>⟨(h.jY b hb rfl).1,hn⟩,h.shape⟩
theorem aEA {H:aA} {w w':World} (hH:fQ w H) (h:Ev aA.none w aA.none w'):fQ w' H:=fun b x hb=>(aBJ h).rC (h.jY b (hH.lt hb) rfl).1 (hH b x hb)
theorem aBK {H:aA} {w w':World} (h:Below w.heap.size w w'):Ev H w H w':=
 ⟨h.os,h.tape,h.output,h.size,fun b hb hn=>⟨h.block b hb,hn⟩,fun b cs t fr hb=>⟨cs,fr,(h.block b (nR.1 hb).1).trans hb,rfl⟩⟩
theorem yE {P:Program} {f:FuncId} {ds0 ds:List D} {H:aA} {r:D} (h:aT P f ds0 .none fun d _=>d=r) (hr:r.plain=true) (hv:Vws H ds ds0):aT P f ds H fun d H'=>d=r/\H=H':=
 And.intro h.1 fun w vs sN hH hG=>by
  refine(h.2 w vs (hv.all hH sN) (fun b x hb=>by cases hb) (hG.le (wJ _))).mono ?_
  rintro e w' ⟨v,d,H',rfl,h1,h2,h3,rfl⟩
  have h4:Ev aA.none w aA.none w':=h3.less (wJ _)
  exact⟨v,d,H,rfl,aCS hr h1,aEA hH h4,aBJ h4,rfl,rfl⟩
theorem Vws.le {H H':aA} (aR:H.le H'):∀{ds es:List D},Vws H ds es->Vws H' ds es->True:=fun _ _=>trivial
theorem aDc {H:aA} {sz:Nat} {x:D} {els:List (List D)} {K:List (List D)->Prop} (h:kU H sz x (·=els)) (hk:K els):kU H sz x K:=by
 unfold kU at h ⊢
 split at h
 ·exact⟨h.1,h.2▸hk⟩
 ·split at h
  ·obtain⟨h1,h2,h3,h4,h5⟩:=h
   exact⟨h1,h2,h3,h4,h5▸hk⟩
  ·exact h.elim
 ·exact h▸hk
 ·exact h▸hk
 ·exact h.elim
theorem aHi {w:World} {S:Nat->Prop} {A:Option Addr} {l:List UInt8} (h:l.map bD=[]\/∃b o,A=some ⟨b,o,none⟩/\b<w.heap.size/\dC w S b 1 o (l.map bD)):Rd w w.heap.size A (bv l):=fun j u hu=>by
 rcases h with h|⟨b,o,rfl,hb,hr⟩
 ·have:l=[]:=by simpa using h
  subst this
  cases hu
 ·refine⟨b,o,rfl,hb,?_⟩
  have hj:j<l.length:=by
   have:=(kD.1 hu).1
   simpa [bv] using this
  obtain⟨_,h2⟩:=eA hr j (bD l[j]) (by simp [hj])
  simp only[bD,cK,D.is,rO] at h2
  obtain⟨⟨u',h3,_,rfl⟩,_⟩:=h2
  rw[h3]
  simp only[bv,cR,cP hj,jV] at hu
  exact hu
theorem aBq {w:World} {H:aA} {l:List UInt8} {v:Value} (h:D.is w H.others (.seq 1 (l.map bD)) v):∃A c,v=.slice A l.length c/\l.length<=c/\Rd w w.heap.size A (bv l):=by
 simp only[D.is,bK] at h
 obtain⟨A,c,rfl,h1,h2⟩:=h
 refine⟨A,c,rfl,h1,aHi (S:=H.others) ?_⟩
 rcases h2 with h2|⟨b,o,h3,_,h4,h5⟩
 ·exact .inl h2
 ·exact .inr ⟨b,o,h3,h4,h5⟩
theorem NJ {H:aA} {w:World} {b o sz k n:Nat} {ty:TypeId} {els:List (List D)} {v:Value} (hH:fQ w H) (hb:H b=some (.row ty o sz els)) (aR:k+n<=els.length)
  (h0:D.is w H.others (.os b o sz k n) v):D.is w (H.del b).others (.seq sz ((els.drop k).take n)) v:=by
 have he:kU H sz (.os b o sz k n) (·=(els.drop k).take n):=by simp only[kU,hb];exact⟨trivial,trivial,trivial,aR,trivial⟩
 obtain⟨l,A,c',rfl,hv,QX,xY⟩:=uO hH he h0
 rw[hv]
 simp only[D.is]
 refine⟨A,c',rfl,QX,?_⟩
 rcases xY with xY|⟨b',o',rfl,D9,hr⟩
 ·exact .inl xY
 ·by_cases hn:(els.drop k).take n=[]
  ·exact .inl hn
  ·right
   refine⟨b',o',rfl,?_,D9,eY fun i el hi=>?_⟩
   ·simp only[D.is] at h0
    obtain⟨A2,c2,e2,_,hA2⟩:=h0
    rw[hv] at e2
    injection e2 with e3 e4 e5
    have ZF:0<n:=by
     rcases zT n with h1|h1
     ·subst h1;simp at hn
     ·exact h1
    rcases hA2 with hA2|⟨hA2,_⟩
    ·have:((els.drop k).take n).length=n:=by rw[dJ,kG];omega
     omega
    ·rw[hA2] at e3
     injection e3 with e3
     injection e3 with e3
     subst e3
     exact sX _ _
   ·obtain⟨g1,g2⟩:=eA hr i el hi
    refine⟨g1,?_⟩
    obtain⟨vs,g3,g4⟩:=dR g2
    exact dV (bV (nI (wK H b) w) _ g3) g4
def St.fW (s:St) (t:Nat) (b sz k n:Nat) (els:List (List D)):St:=(s.dW (s.H.del b)).put (some t) (.seq sz ((els.drop k).take n))
theorem aT.aQu {P:Program} {f:FuncId} {ds ds0:List D} {H H0:aA} {K:D->aA->Prop} (h:aT P f ds0 H0 K) (aR:H0.le H) (hv:∀w vs,fQ w H->aW w H.others ds vs->aW w H0.others ds0 vs):aT P f ds H K:=
 And.intro h.1 fun w vs sN hH hG=>(h.2 w vs (hv w vs hH sN) (hH.less aR) (hG.le aR)).mono fun e w' ⟨v,d,H',he,hd,hH',iP,hk⟩=>
  ⟨v,d,H',he,hd,hH',⟨iP.os,iP.tape,iP.output,iP.size,fun b hb hn=>iP.jY b hb (by
   cases hx:H0 b with
   |none=>rfl
   |some x=>have:=aR b x hx;rw[hn] at this;cases this),iP.shape⟩,hk⟩
theorem aT.aXA {P:Program} {f:FuncId} {H:aA} {b o sz k n:Nat} {ty:TypeId} {els:List (List D)} {K:D->aA->Prop} (hb:H b=some (.row ty o sz els)) (aR:k+n<=els.length)
  (h:aT P f [.seq sz ((els.drop k).take n)] (H.del b) K):aT P f [.os b o sz k n] H K:=by
 refine h.aQu (wK H b) fun w vs hH sN=>?_
 simp only[aW] at sN ⊢
 obtain⟨u,us,rfl,hd,rfl⟩:=sN
 exact⟨u,[],rfl,NJ hH hb aR hd,rfl⟩
theorem RG {cx:Cx} {s:St} {a:Act} {w:World} (t:Nat) (d:D) (h:∀w v,D.is w s.H.others (s.fr t) v->D.is w s.H.others d v) (m:cH cx s a w):cH cx (s.put (some t) d) a w:=by
 refine⟨m.n,m.df,fun x=>?_,m.H,m.ev⟩
 have ef:(s.put (some t) d).fr x=if x=t then d else s.fr x:=rfl
 rw[ef]
 show D.is w s.H.others _ _
 by_cases hx:x=t
 ·subst hx
  rw[aH rfl]
  exact h w _ (m.fr x)
 ·rw[aD hx]
  exact m.fr x
theorem aIU {cx:Cx} {c:Code} {Q:Exit->St->Prop} {s:St} (t:Nat) (d:D) (h:∀w v,D.is w s.H.others (s.fr t) v->D.is w s.H.others d v) (hw:W cx c Q (s.put (some t) d)):W cx c Q s:=fun a w m=>hw a w (RG t d h m)
theorem aIS {cx:Cx} {aV:Array Oper} {l:List Oper} {Q:Exit->St->Prop} {s:St} (t:Nat) (d:D) (h:∀w v,D.is w s.H.others (s.fr t) v->D.is w s.H.others d v) (hw:WL cx aV l Q (s.put (some t) d)):WL cx aV l Q s:=fun a w m=>hw a w (RG t d h m)
theorem OD {w:World} {S:Nat->Prop} {sz:Nat} {v:Value} (h:D.is w S (.val (.slice none 0 0)) v):D.is w S (.seq sz []) v:=by
 have e:=dF h
 subst e
 simp only[D.is]
 exact⟨none,0,rfl,fA _,.inl trivial⟩
end Go.Proofs.YtelbfbioomcmeaaGreatDoor

