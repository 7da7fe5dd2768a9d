/- Lemmas and contracts of functions, several texts in one. -/
import Derived.Test.YtfiipaodjpiooaaGreatDoorQ06
set_option maxRecDepth 100000
set_option maxHeartbeats 4000000
set_option linter.all false
namespace Go.Proofs.YtfiipaodjpiooaaGreatDoor
open Go.RowKit
theorem aCp {cx:Cx} {GW:Option Tmp->List D->aC->D->aC->Prop} {s:St} {o:Oper} {K:D->aC->Prop} (hd:DE cx.n o.dst) (h:oS cx.P GW s o K):
  WO cx o (fun s'=>∃d H',K d H'/\s'=s.pT o d H') s:=by
 refine rY hd ?_
 unfold oS at h
 split at h
 ·rename_i t x y e
  unfold eG
  rw[e]
  exact(aEI cx.P s.H t (s.ev x) (s.ev y)).2 K (fun d H'=>∃d' gI,K d' gI/\(s.dY H').put o.dst d=s.pT o d' gI) (fun d H' hk=>⟨d,H',hk,rfl⟩) h
 ·rename_i t x i y e
  unfold eG
  rw[e]
  exact(aDt cx.P s.H t (s.ev x) (s.ev i) (s.ev y)).2 K (fun d H'=>∃d' gI,K d' gI/\(s.dY H').put o.dst d=s.pT o d' gI) (fun d H' hk=>⟨d,H',hk,rfl⟩) h
 ·rename_i c e
  unfold eG
  rw[e]
  simp only
  unfold W8
  split at h
  ·rename_i hc
   rw[hc]
   simp only[QF]
   split at h
   ·rename_i t xt x y ht hx
    simp only[ht,hx]
    split at h
    ·exact h.elim
    ·rename_i hni
     split
     ·rename_i he
      exact absurd he (hni _ _ _ _)
     ·exact(aCy cx.P s.H t xt x y).2 K (fun d H'=>∃d' gI,K d' gI/\(s.dY H').put o.dst d=s.pT o d' gI) (fun d H' hk=>⟨d,H',hk,rfl⟩) h
   ·exact h.elim
  ·rename_i hc
   rw[hc]
   simp only[QF]
   split at h
   ·rename_i t xt x y ht hx
    simp only[ht,hx]
    exact(aAQ cx.P s.H t x y).2 K (fun d H'=>∃d' gI,K d' gI/\(s.dY H').put o.dst d=s.pT o d' gI) (fun d H' hk=>⟨d,H',hk,rfl⟩) h
   ·exact h.elim
  ·rename_i f hc
   rw[hc]
   simp only
   split at h
   ·rename_i g eL hf
    simp only[hf]
    exact h.1.mono fun d H' hg=>⟨d,H',h.2 d H' hg,rfl⟩
   ·exact h.elim
  ·exact h.elim
 ·exact h.elim
theorem aA0 {cx:Cx} {GW:Option Tmp->List D->aC->D->aC->Prop} {aX:List Oper} {s:St} {i:Nat} {o:Oper} {K:D->aC->Prop} (fI:gJ cx.n aX=true) (ho:aX[i]?=some o) (h:gW cx.P GW aX.toArray s o K)
  {a:Act} {w:World} (m:dF cx s a w) {Q:Exit->Act->World->Prop}:
  wpOpIn (FR cx.ro) 9 cx.P aX.toArray Q i (fun a' w'=>∃d H',K d H'/\dF cx (s.pT o d H') a' w') a w:=by
 have fF:∀o'∈aX,DE cx.n o'.dst:=fun o' OX=>by
  have:=(eZ.1 fI) o' OX
  unfold DE
  cases hq:o'.dst with
  |none=>trivial
  |some t=>rw[hq] at this;simpa using this
 have hd:=fF o (iQ ho)
 have run:∀{K:D->aC->Prop},oS cx.P GW s o K->o.wpIn (FR cx.ro) 9 cx.P a w (fun a' w'=>∃d H',K d H'/\dF cx (s.pT o d H') a' w') Q:=fun hc=>
  Oper.wpIn_mono (fun a' w' ⟨s',m',d,A,h1,h3⟩=>⟨d,A,h1,h3▸m'⟩) (FU (aCp hd hc a w m))
 have skip:K (.val undef) s.H->∃d H',K d H'/\dF cx (s.pT o d H') (a.put o.dst undef) w:=fun hk=>
  ⟨_,s.H,hk,m.put (j8 hd) (by simp only[D.is])⟩
 unfold wpOpIn
 have OX:aX.toArray[i]?=some o:=by simpa using ho
 rw[OX]
 simp only
 unfold gW at h
 split at h
 ·rename_i hg
  have hw:Region.wanted o (yielded aX.toArray a.tmps)=true:=by simp [Region.wanted,hg]
  rw[aE hw]
  exact run h
 ·rename_i j fL hg
  have hwt:Region.wanted o (yielded aX.toArray a.tmps)=(yielded aX.toArray a.tmps j==some fL):=by unfold Region.wanted;rw[hg]
  split at h
  ·rename_i t ht
   have T6:t<cx.n:=by
    unfold qF at ht
    cases hj:aX.toArray[j]? with
    |none=>rw[hj] at ht;cases ht
    |some o'=>
     rw[hj] at ht
     have:=fF o' (by have:=F1 hj;simpa using this)
     simp at ht
     rw[ht] at this
     exact this
   have hy:yielded aX.toArray a.tmps j=match a.tmps[t]? with|some (.bool b)=>some b|_=>none:=by
    unfold yielded
    unfold qF at ht
    rw[ht]
    rfl
   have NF:t<a.tmps.size:=by rw[m.n];exact T6
   have rK:a.tmps[t]?=some (a.tmps.getD t undef):=by simp [NF]
   have hf:=m.fr t
   split at h
   ·rename_i b hb
    rw[yE] at h
    rw[hb] at hf
    simp only[D.is] at hf
    rw[rK,hf] at hy
    simp only at hy
    rw[hy] at hwt
    by_cases e:b=fL
    ·rw[aE (by rw[hwt,e];simp)]
     exact run (h.1 e)
    ·have e2:b= !fL:=by cases b <;> cases fL <;> first|rfl|exact absurd rfl e
     rw[aA (by rw[hwt,e2];cases fL <;> simp)]
     exact⟨oH,skip (h.2 e2)⟩
   ·rename_i hb
    rw[hb] at hf
    simp only[D.is] at hf
    rw[rK,hf] at hy
    simp only at hy
    rw[hy] at hwt
    rw[aA (by rw[hwt];simp)]
    exact⟨oH,skip h⟩
   ·exact h.elim
  ·exact h.elim
section
variable {cx:Cx} {fl wc:Option Tmp->Bool} {G:Option Tmp->List D->D->aC->Prop} {GW:Option Tmp->List D->aC->D->aC->Prop} {aX:List Oper} {Q:St->Prop}
theorem VX {o:Oper} (fI:gJ cx.n aX=true) (hc:jV wc o=false):∀{pre post:List Oper} {H:aC} {s:St} {a:Act} {w:World},(∀p∈pre,yU aX.toArray p o/\p∈aX/\jV wc p=false)->II cx.P fl wc G GW aX.toArray Q H (pre++o::post) s->
  H.le s.H->dF cx s a w->tZ cx.P G (BS fl H o) aX.toArray s o fun _ _=>True
 |[],post,H,s,a,w,_,h,_,_=>by
  simp only[gZ,II,hc,mF,fW] at h
  exact(EF _ _ _ _ _ _).2 _ _ (fun _ _ _=>trivial) h
 |p::pre,post,H,s,a,w,hi,h,aS,m=>by
  obtain⟨OB,hpo,hpc⟩:=hi p (by simp)
  simp only[gP,II,hpc,mF,fW] at h
  obtain⟨i,hpi⟩:=AJ hpo
  obtain⟨a',w',d,A,hk,hA,m'⟩:=vM (yZ (Q:=NoQ) (Q8 aS) fI hpi h m)
  have ih:=VX fI hc (fun q hq=>hi q (by simp [hq])) (hk hA) (by rw[rD];exact mH aS (GA hA)) m'
  have lO:tZ cx.P G (BS fl H o) aX.toArray (s.out p d A) o=tZ cx.P G (BS fl H o) aX.toArray s o:=NY fun t ht=>mZ fun e=>(OB.1 t e).1 ht
  rw[lO] at ih
  exact ih
theorem MB {o:Oper} (fI:gJ cx.n aX=true) (hf:qG fl o=true):∀{pre post:List Oper} {H:aC} {s:St} {a:Act} {w:World},(∀p∈pre,yU aX.toArray p o/\p∈aX)->II cx.P fl wc G GW aX.toArray Q H (pre++o::post) s->
  H.le s.H->dF cx s a w->tZ cx.P G (BS fl H o) aX.toArray s o fun _ _=>True
 |[],post,H,s,a,w,_,h,_,_=>by
  simp only[gZ,II,E7 hf,mF,fW] at h
  exact(EF _ _ _ _ _ _).2 _ _ (fun _ _ _=>trivial) h
 |p::pre,post,H,s,a,w,hi,h,aS,m=>by
  obtain⟨OB,hpo⟩:=hi p (by simp)
  obtain⟨i,hpi⟩:=AJ hpo
  simp only[gP,II] at h
  split at h
  ·obtain⟨a',w',d,H',hk,m'⟩:=vM (aA0 (Q:=NoQ) fI hpi h m)
   have ih:=MB fI hf (fun q hq=>hi q (by simp [hq])) hk (by rw[Y1];exact aG _) m'
   have lO:tZ cx.P G (BS fl H' o) aX.toArray (s.pT p d H') o=tZ cx.P G (BS fl H' o) aX.toArray s o:=NY fun t ht=>J4 fun e=>(OB.1 t e).1 ht
   rw[lO,LO (H':=H) hf] at ih
   exact ih
  ·obtain⟨a',w',d,A,hk,hA,m'⟩:=vM (yZ (Q:=NoQ) (Q8 aS) fI hpi h m)
   have ih:=MB fI hf (fun q hq=>hi q (by simp [hq])) (hk hA) (by rw[rD];exact mH aS (GA hA)) m'
   have lO:tZ cx.P G (BS fl H o) aX.toArray (s.out p d A) o=tZ cx.P G (BS fl H o) aX.toArray s o:=NY fun t ht=>mZ fun e=>(OB.1 t e).1 ht
   rw[lO] at ih
   exact ih
theorem VY {o:Oper} (fI:gJ cx.n aX=true) (hw:jV wc o=true):∀{pre post:List Oper} {H:aC} {s:St} {a:Act} {w:World},(∀p∈pre,yU aX.toArray p o/\p∈aX/\qG fl p=true)->II cx.P fl wc G GW aX.toArray Q H (pre++o::post) s->
  H.le s.H->dF cx s a w->gW cx.P GW aX.toArray s o fun _ _=>True
 |[],post,H,s,a,w,_,h,_,_=>by
  simp only[gZ,II,aE hw] at h
  exact(aBp _ _ _ _ _).2 _ _ (fun _ _ _=>trivial) h
 |p::pre,post,H,s,a,w,hi,h,aS,m=>by
  obtain⟨OB,hpo,hpf⟩:=hi p (by simp)
  obtain⟨i,hpi⟩:=AJ hpo
  simp only[gP,II,E7 hpf,mF,fW] at h
  obtain⟨a',w',d,A,⟨rfl,hk⟩,hA,m'⟩:=vM (yZ (Q:=NoQ) (Q8 aS) fI hpi (LP hpf h) m)
  have ih:=VY fI hw (fun q hq=>hi q (by simp [hq])) (hk hA) (by rw[rD,sC];exact aS) m'
  have lO:gW cx.P GW aX.toArray (s.out p d .none) o=gW cx.P GW aX.toArray s o:=aGn (by rw[rD,sC]) fun t ht=>mZ fun e=>(OB.1 t e).1 ht
  rw[lO] at ih
  exact ih
end
def NN (aX:List Oper):List Nat:=aX.foldl (fun acc o=>acc++[o.after.toList.foldl (fun m e=>if Region.binds .any e then m|||(1<<<e.on)|||acc.getD e.on 0 else m) 0]) []
def SN (aX:List Oper) (ZF:List Nat):Bool:=aX.zipIdx.all fun (o,j)=>(List.range j).all fun i=> !((ZF.getD j 0).testBit i)||
 o.after.toList.any fun e=>Region.binds .any e&&(e.on==i||(decide (i<e.on)&&(ZF.getD e.on 0).testBit i))
def aBE (fl wc:Option Tmp->Bool) (aX:List Oper) (ZF:List Nat):Bool:=aX.zipIdx.all fun (o,j)=>(aX.take j).zipIdx.all fun (p,i)=>
 (ZF.getD j 0).testBit i|| !((jV wc p&& !qG fl o)||(jV wc o&& !qG fl p))
theorem aMs {aX:List Oper} {ZF:List Nat} (LZ:SN aX ZF=true) (qW:yX aX=true) {R:List Nat} (BB:∀(k:Nat) (o:Oper),aX[k]?=some o->k∉R->∀e∈o.after.toList,Region.binds .any e=true->e.on∉R):
  ∀(j:Nat) (o:Oper),aX[j]?=some o->(∀e∈o.after.toList,Region.binds .any e=true->e.on∉R)->∀i,i<j->(ZF.getD j 0).testBit i=true->i∉R:=by
 intro j
 induction j using Nat.strongRecOn with
 |ind j ih=>
  intro o ho he i hi hb
  have:=(eZ.1 LZ) (o,j) (IJ.2 (by simpa using ho))
  have:=(eZ.1 this) i (oB.2 hi)
  simp only[hb,rN,C3] at this
  obtain⟨e,hem,h3⟩:=F6.1 this
  simp only[eK,CZ,C8,fV] at h3
  obtain⟨hbe,h4⟩:=h3
  have aK4:=he e hem hbe
  rcases h4 with rfl|⟨kL,h5⟩
  ·exact aK4
  ·have hej:=pN qW ho e hem hbe
   have fQ:j<aX.length:=(mE.1 ho).1
   obtain⟨o',OX⟩:∃o',aX[e.on]?=some o':=⟨aX[e.on],bX (by omega)⟩
   exact ih e.on hej o' OX (BB e.on o' OX aK4) i kL h5
theorem aC1 {fl wc:Option Tmp->Bool} {aX:List Oper} {ZF:List Nat} (h:aBE fl wc aX ZF=true) {i j:Nat} {p o:Oper} (hij:i<j) (hp:aX[i]?=some p) (ho:aX[j]?=some o) (hnb:¬(ZF.getD j 0).testBit i=true):
  (jV wc p=true->qG fl o=true)/\(jV wc o=true->qG fl p=true):=by
 have:=(eZ.1 h) (o,j) (IJ.2 (by simpa using ho))
 have:=(eZ.1 this) (p,i) (IJ.2 (by simp only[uS];rw[aE hij];exact hp))
 have hb:(ZF.getD j 0).testBit i=false:=by simpa using hnb
 simp only[hb,C3] at this
 refine⟨fun e=>?_,fun e=>?_⟩
 ·cases hf:qG fl o with
  |true=>rfl
  |false=>rw[e,hf] at this;simp at this
 ·cases hf:qG fl p with
  |true=>rfl
  |false=>rw[e,hf] at this;simp at this
theorem aEn {cx:Cx} {fl wc:Option Tmp->Bool} {G:Option Tmp->List D->D->aC->Prop} {GW:Option Tmp->List D->aC->D->aC->Prop} {aX:List Oper} {ZF:List Nat} {Q:Exit->St->Prop}
  (fI:gJ cx.n aX=true) (qW:yX aX=true) (LZ:SN aX ZF=true) (aCI:aBE fl wc aX ZF=true):∀(kT:Nat) (R:List Nat) (cB:Array Bool) (H:aC) (s:St) (a:Act) (w:World),
  R.length<=kT->R.Pairwise (·<·)->cB.size=aX.length->(∀i,i∈R↔i<aX.length/\cB.getD i true=false)->
  (∀(k:Nat) (o:Oper),aX[k]?=some o->k∉R->∀e∈o.after.toList,Region.binds .any e=true->e.on∉R)->
  H.le s.H->dF cx s a w->II cx.P fl wc G GW aX.toArray (Q .normal) H (R.filterMap (aX[·]?)) s->
  wpAnyIn (FR cx.ro) 9 cx.P .any aX.toArray (QQ cx Q) kT cB a w:=by
 have stuck:∀(R:List Nat) (cB:Array Bool),R.Pairwise (·<·)->(∀i,i∈R↔i<aX.length/\cB.getD i true=false)->cB.size=aX.length->Region.ready .any aX.toArray cB=[]->R=[]:=by
  intro R cB hp oQ lZ hr
  rcases R with _|⟨r,R⟩
  ·rfl
  ·exfalso
   have hr1:=(oQ r).1 (by simp)
   obtain⟨o,ho⟩:∃o,aX[r]?=some o:=⟨aX[r],by simp [hr1.1]⟩
   have:r∈Region.ready .any aX.toArray cB:=by
    unfold Region.ready
    rw[jX]
    refine⟨by simp;exact hr1.1,?_⟩
    have OX:aX.toArray[r]?=some o:=by simpa using ho
    rw[hr1.2,OX]
    simp only[uU,eI,mG,CY]
    rw[<-KW,eZ]
    intro e he
    cases hb:Region.binds .any e with
    |false=>simp
    |true=>
     have kL:=pN qW ho e he hb
     have:¬e.on∈r::R:=fun hm=>by
      rw[wW] at hp
      rcases dJ.1 hm with h1|h1
      ·omega
      ·have:=hp.1 _ h1;omega
     have h2:cB.getD e.on true=true:=by
      cases hl:cB.getD e.on true with
      |true=>rfl
      |false=>exact absurd ((oQ e.on).2 ⟨by omega,hl⟩) this
     have h3:cB.getD e.on false=true:=by
      have aCF:e.on<cB.size:=by omega
      simp only[Array.getD,aCF,dif_pos] at h2 ⊢
      exact h2
     simp [h3]
   rw[hr] at this
   cases this
 intro kT
 induction kT with
 |zero=>
  intro R cB H s a w fJ hp lZ oQ BB aS m h
  obtain rfl:R=[]:=iX (by omega)
  have x6:Region.ready .any aX.toArray cB=[]:=by
   rw[ZQ]
   intro i hi
   unfold Region.ready at hi
   rw[jX] at hi
   have h2:=hi.2
   simp only[eK,wY] at h2
   exact absurd ((oQ i).2 ⟨by simpa using hi.1,h2.1⟩) (by simp)
  exact⟨x6,s,m,by simpa [II] using h⟩
 |succ kT ih=>
  intro R cB H s a w fJ hp lZ oQ BB aS m h
  refine⟨fun hr=>?_,fun i hi=>?_⟩
  ·obtain rfl:=stuck R cB hp oQ lZ hr
   exact⟨s,m,by simpa [II] using h⟩
  ·unfold Region.ready at hi
   rw[jX] at hi
   obtain⟨B9,EM⟩:=hi
   have aV:i<aX.length:=by simpa using B9
   obtain⟨o,ho⟩:∃o,aX[i]?=some o:=⟨aX[i],by simp [aV]⟩
   have OX:aX.toArray[i]?=some o:=by simpa using ho
   rw[OX] at EM
   simp only[eK,wY,mG,CY] at EM
   obtain⟨hl,RB⟩:=EM
   have hiR:i∈R:=(oQ i).2 ⟨aV,hl⟩
   have x6:∀e∈o.after.toList,Region.binds .any e=true->e.on∉R:=fun e he hb iI=>by
    rw[<-KW,eZ] at RB
    have:=RB e he
    rw[hb] at this
    simp only[rN,C3] at this
    have jG:=(oQ e.on).1 iI
    have aCF:e.on<cB.size:=by omega
    simp only[Array.getD,aCF,dif_pos] at this jG
    rw[jG.2] at this
    cases this
   have aQx:=aMs LZ qW BB i o ho x6
   obtain⟨pre,post,rfl⟩:=PV hiR
   obtain⟨lP,aAh,hpw⟩:=CG hp
   have iI:∀p∈pre.filterMap (aX[·]?),yU aX.toArray p o/\p∈aX/\(jV wc p=true->qG fl o=true)/\(jV wc o=true->qG fl p=true):=fun p HQ=>by
    obtain⟨k,hk,G6⟩:=List.mem_filterMap.1 HQ
    refine⟨EC qW (lP k hk) G6 ho fun e he hb hek=>?_,iQ G6,aC1 aCI (lP k hk) G6 ho fun hb=>?_⟩
    ·exact x6 e he hb (by rw[hek];simp [hk])
    ·exact aQx k (lP k hk) hb (by simp [hk])
   have HS:(pre++i::post).filterMap (aX[·]?)=pre.filterMap (aX[·]?)++o::post.filterMap (aX[·]?):=by
    rw[zM,PS,ho]
   rw[HS] at h
   have aHN:∀k,k∈pre++post↔k<aX.length/\(cB.setIfInBounds i true).getD k true=false:=by
    intro k
    have hk:=oQ k
    rw[bV,dJ] at hk
    rw[bV]
    have kL:i<cB.size:=by omega
    have LV:(cB.setIfInBounds i true).getD k true=if k=i then true else cB.getD k true:=AZ _ _ _ _ _ kL
    rw[LV]
    by_cases e:k=i
    ·subst e
     simp only[fO]
     constructor
     ·rintro(h3|h3)
      ·have:=lP _ h3;omega
      ·have:=aAh _ h3;omega
     ·rintro⟨_,h3⟩;cases h3
    ·rw[aA e,<-hk]
     constructor
     ·rintro(h3|h3)
      ·exact .inl h3
      ·exact .inr (.inr h3)
     ·rintro(h3|h3|h3)
      ·exact .inl h3
      ·exact absurd h3 e
      ·exact .inr h3
   have JQ:∀k,k∈pre++post->k∈pre++i::post:=fun k hk=>by
    rcases bV.1 hk with h1|h1
    ·simp [h1]
    ·simp [h1]
   have LS:∀(k:Nat) (o:Oper),aX[k]?=some o->k∉pre++post->∀e∈o.after.toList,Region.binds .any e=true->e.on∉pre++post:=fun k o2 OY hk e he hb xY=>by
    by_cases hki:k=i
    ·subst hki
     rw[ho] at OY
     injection OY with OY
     subst OY
     exact x6 e he hb (JQ _ xY)
    ·refine BB k o2 OY (fun jG=>hk ?_) e he hb (JQ _ xY)
     rcases bV.1 jG with h1|h1
     ·exact bV.2 (.inl h1)
     ·rcases dJ.1 h1 with h1|h1
      ·exact absurd h1 hki
      ·exact bV.2 (.inr h1)
   have aHM:(pre++post).length<=kT:=by simp at fJ ⊢;omega
   cases hw:jV wc o with
   |true=>
    have xY:∀p∈pre.filterMap (aX[·]?),yU aX.toArray p o/\p∈aX/\qG fl p=true:=fun p HQ=>⟨(iI p HQ).1,(iI p HQ).2.1,(iI p HQ).2.2.2 hw⟩
    have LQ:=(aBp cx.P GW aX.toArray s o).1 _ (VY fI hw xY h aS m)
    refine wpOpIn_mono ?_ (aA0 fI ho LQ m)
    rintro a' w' ⟨d,H',rU,m'⟩
    have h2:=aB3 hw (fun p HQ=>⟨(xY p HQ).1,(xY p HQ).2.2⟩) h rU
    exact ih (pre++post) _ H' (s.pT o d H') a' w' aHM hpw (by simpa using lZ) aHN LS (by rw[Y1];exact aG _) m' (by rw[zM];exact h2)
   |false=>
    by_cases hf:qG fl o=true
    ·have aAi:=MB fI hf (fun p HQ=>⟨(iI p HQ).1,(iI p HQ).2.1⟩) h aS m
     have LQ:=LP hf ((EF cx.P G (BS fl H o) aX.toArray s o).1 _ aAi)
     refine wpOpIn_mono ?_ (yZ (Q8 aS) fI ho LQ m)
     rintro a' w' ⟨d,A,⟨rfl,rU⟩,hA,m'⟩
     have h2:=SX hf (fun p HQ=>(iI p HQ).1) h rU
     exact ih (pre++post) _ H (s.out o d .none) a' w' aHM hpw (by simpa using lZ) aHN LS (by rw[rD,sC];exact aS) m' (by rw[zM];exact h2)
    ·have xY:∀p∈pre.filterMap (aX[·]?),yU aX.toArray p o/\p∈aX/\jV wc p=false:=fun p HQ=>by
      refine⟨(iI p HQ).1,(iI p HQ).2.1,?_⟩
      cases hp:jV wc p with
      |false=>rfl
      |true=>exact absurd ((iI p HQ).2.2.1 hp) hf
     have LQ:=(EF cx.P G (BS fl H o) aX.toArray s o).1 _ (VX fI hw xY h aS m)
     refine wpOpIn_mono ?_ (yZ (Q8 aS) fI ho LQ m)
     rintro a' w' ⟨d,A,rU,hA,m'⟩
     have h2:=aB2 hw (fun p HQ=>⟨(xY p HQ).1,(xY p HQ).2.2⟩) h rU hA
     exact ih (pre++post) _ H (s.out o d A) a' w' aHM hpw (by simpa using lZ) aHN LS (by rw[rD];exact mH aS (GA hA)) m' (by rw[zM];exact h2)
theorem aNH {cx:Cx} {id:Nat} {aX:List Oper} {Q:Exit->St->Prop} {s:St} (fl wc:Option Tmp->Bool) (G:Option Tmp->List D->D->aC->Prop) (GW:Option Tmp->List D->aC->D->aC->Prop) (hm:cx.P.follows .mixedOrders=true)
  (fI:gJ cx.n aX=true) (qW:yX aX=true) (LZ:SN aX (NN aX)=true) (aCI:aBE fl wc aX (NN aX)=true)
  (h:II cx.P fl wc G GW aX.toArray (Q .normal) s.H aX s):W cx (.region id aX.toArray true) Q s:=fun a w m=>by
 refine wpIn_region_any hm ?_
 have m':dF cx s a w.drew:=m.go (sV s.H w) m.H.drew
 have e:(List.range aX.length).filterMap (aX[·]?)=aX:=by
  rw[uZ (g:=fun i=>aX.getD i default) fun i hi=>by
   have:i<aX.length:=by simpa using hi
   simp [List.getD,this]]
  apply u5
  intro i
  by_cases hi:i<aX.length
  ·simp [hi,List.getD]
  ·simp [hi]
 refine aEn fI qW LZ aCI _ (List.range aX.length) _ s.H s a _ (by simp) F0 (by simp) (fun i=>?_) (fun k o ho hk=>?_) (aG _) m' (by rw[e];exact h)
 ·simp only[oB,PX]
  constructor
  ·intro hi
   refine⟨hi,?_⟩
   simp [Array.getD,hi]
  ·exact fun h=>h.1
 ·exact absurd (oB.2 (mE.1 ho).1) hk
theorem nO (H:aC):sN aC.none H=True:=aK (u7 H)
theorem E2 {P:Program} {f:FuncId} {args:List D} {H:aC} {G:D->aC->Prop} {K:aC->D->aC->Prop} (h:∀gI,H.le gI->bE P f args gI (K gI)) (hk:∀gI d H',K gI d H'->∃A,sN A gI/\H'=gI.add A/\G d A):eF P f args H G:=
 fun gI aS=>(h gI aS).mono fun d H' hh=>hk gI d H' hh
def Vw (H:aC) (d d0:D):Prop:=∀w v,iK w H->D.is w H.others d v->D.is w aC.none.others d0 v
theorem tE (H:aC) (d:D):Vw H d d:=fun w v _ h=>qD (rP (iY H) w) d h
theorem aJB {H:aC} {sz:Nat} {d:D} {els:List (List D)} (h:nH H sz d (·=els)):Vw H d (.seq sz els):=fun w v hH hd=>by
 obtain⟨l,A,c,rfl,rfl,hlc,CD⟩:=AV hH h hd
 simp only[D.is]
 refine⟨A,c,rfl,hlc,?_⟩
 rcases CD with CD|⟨b,o,rfl,hb,hr⟩
 ·exact .inl CD
 ·right
  refine⟨b,o,rfl,rfl,hb,gO fun i el hi=>?_⟩
  obtain⟨g1,g2⟩:=fH hr i el hi
  refine⟨g1,?_⟩
  obtain⟨vs,g3,g4⟩:=fA g2
  exact fD (cK (rP (iY H) w) _ g3) g4
def Vws (H:aC):List D->List D->Prop
 |[],[]=>True
 |d::ds,e::es=>Vw H d e/\Vws H ds es
 |_,_=>False
theorem aJC {H:aC} {d e d2 e2:D} (h:Vw H d e) (h2:Vw H d2 e2):Vws H [d,d2] [e,e2]:=⟨h,h2,trivial⟩
theorem a08 {H:aC} {d e d2 e2 d3 e3:D} (h:Vw H d e) (h2:Vw H d2 e2) (h3:Vw H d3 e3):Vws H [d,d2,d3] [e,e2,e3]:=⟨h,h2,h3,trivial⟩
theorem Vws.all {H:aC} {w:World} (hH:iK w H):∀{ds es:List D} {vs:List Value},Vws H ds es->aW w H.others ds vs->aW w aC.none.others es vs
 |[],[],vs,_,h=>by simp only[aW] at h ⊢;exact h
 |d::ds,e::es,vs,hv,h=>by
  simp only[aW] at h ⊢
  obtain⟨u,us,rfl,h1,h2⟩:=h
  exact⟨u,us,rfl,hv.1 w u hH h1,Vws.all hH hv.2 h2⟩
 |[],_::_,_,hv,_=>hv.elim
 |_::_,[],_,hv,_=>hv.elim
def D.plain:D->Bool
 | .val _=>true
 | .pG ds=>ds.all fun d=>match d with
  | .val _=>true
  |_=>false
 |_=>false
theorem R4 {w w':World} {S S':Nat->Prop}:∀{ds:List D} {vs:List Value},(ds.all fun d=>match d with| .val _=>true|_=>false)=true->aW w S ds vs->aW w' S' ds vs
 |[],_,_,h=>by simp only[aW] at h ⊢;exact h
 |d::ds,vs,hp,h=>by
  simp only[aW] at h ⊢
  obtain⟨u,us,rfl,h1,h2⟩:=h
  simp only[pX,eK] at hp
  refine⟨u,us,rfl,?_,R4 hp.2 h2⟩
  cases d <;> first|(cases hp.1;done)|(simp only[D.is] at h1 ⊢;exact h1)
theorem aIH {w w':World} {S S':Nat->Prop} {d:D} {v:Value} (hp:d.plain=true) (h:D.is w S d v):D.is w' S' d v:=by
 cases d with
 |val u=>simp only[D.is] at h ⊢;exact h
 |pG ds=>
  simp only[D.is] at h ⊢
  obtain⟨vs,rfl,h⟩:=h
  exact⟨vs,rfl,R4 hp h⟩
 |_=>cases hp
theorem aGe {H:aC} {w w':World} (h:Ev aC.none w aC.none w'):Ev H w H w':=
 ⟨h.os,h.tape,h.output,h.size,fun b hb hn=>⟨(h.fS b hb rfl).1,hn⟩,h.shape⟩
theorem aK5 {H:aC} {w w':World} (hH:iK w H) (h:Ev aC.none w aC.none w'):iK w' H:=fun b x hb=>(aGe h).sZ (h.fS b (hH.lt hb) rfl).1 (hH b x hb)
theorem MC {P:Program} {f:FuncId} {ds0 ds:List D} {H:aC} {r:D} (h:bE P f ds0 .none fun d _=>d=r) (hr:r.plain=true) (hv:Vws H ds ds0):bE P f ds H fun d H'=>d=r/\H=H':=
 And.intro h.1 fun w vs zD hH hG=>by
  refine(h.2 w vs (hv.all hH zD) (fun b x hb=>by cases hb) (hG.le (iY _))).mono ?_
  rintro e w' ⟨v,d,H',rfl,h1,h2,h3,rfl⟩
  have h4:Ev aC.none w aC.none w':=h3.less (iY _)
  exact⟨v,d,H,rfl,aIH hr h1,aK5 hH h4,aGe h4,rfl,rfl⟩
theorem Vws.le {H H':aC} (aS:H.le H'):∀{ds es:List D},Vws H ds es->Vws H' ds es->True:=fun _ _=>trivial
theorem aKB {H:aC} {sz:Nat} {x:D} {els:List (List D)} {K:List (List D)->Prop} (h:nH H sz x (·=els)) (hk:K els):nH H sz x K:=by
 unfold nH at h ⊢
 split at h
 ·exact⟨h.1,h.2▸hk⟩
 ·split at h
  ·obtain⟨h1,h2,h3,h4,h5⟩:=h
   exact⟨h1,h2,h3,h4,h5▸hk⟩
  ·exact h.elim
 ·exact h▸hk
 ·exact h▸hk
 ·exact h.elim
theorem XW {H:aC} {w:World} {b o sz k n:Nat} {ty:TypeId} {els:List (List D)} {v:Value} (hH:iK w H) (hb:H b=some (.row ty o sz els)) (aS:k+n<=els.length)
  (h0:D.is w H.others (.os b o sz k n) v):D.is w (H.del b).others (.seq sz ((els.drop k).take n)) v:=by
 have he:nH H sz (.os b o sz k n) (·=(els.drop k).take n):=by simp only[nH,hb];exact⟨trivial,trivial,trivial,aS,trivial⟩
 obtain⟨l,A,c',rfl,hv,hlc,CD⟩:=AV hH he h0
 rw[hv]
 simp only[D.is]
 refine⟨A,c',rfl,hlc,?_⟩
 rcases CD with CD|⟨b',o',rfl,B7,hr⟩
 ·exact .inl CD
 ·by_cases hn:(els.drop k).take n=[]
  ·exact .inl hn
  ·right
   refine⟨b',o',rfl,?_,B7,gO fun i el hi=>?_⟩
   ·simp only[D.is] at h0
    obtain⟨A2,c2,e2,_,hA2⟩:=h0
    rw[hv] at e2
    injection e2 with e3 e4 e5
    have aK7:0<n:=by
     rcases KS n with h1|h1
     ·subst h1;simp at hn
     ·exact h1
    rcases hA2 with hA2|⟨hA2,_⟩
    ·have:((els.drop k).take n).length=n:=by rw[dU,nD];omega
     omega
    ·rw[hA2] at e3
     injection e3 with e3
     injection e3 with e3
     subst e3
     exact tG _ _
   ·obtain⟨g1,g2⟩:=fH hr i el hi
    refine⟨g1,?_⟩
    obtain⟨vs,g3,g4⟩:=fA g2
    exact fD (cK (rP (C7 H b) w) _ g3) g4
def St.fZ (s:St) (t:Nat) (b sz k n:Nat) (els:List (List D)):St:=(s.dY (s.H.del b)).put (some t) (.seq sz ((els.drop k).take n))
theorem aFT {cx:Cx} {s:St} {a:Act} {w:World} {t b o sz k n:Nat} {ty:TypeId} {els:List (List D)} (ht:s.fr t=.os b o sz k n) (hb:s.H b=some (.row ty o sz els)) (aS:k+n<=els.length) (m:dF cx s a w):dF cx (s.fZ t b sz k n els) a w:=by
 have m2:=m.less (C7 s.H b)
 refine⟨m2.n,m2.df,fun x=>?_,m2.H,m2.ev⟩
 have ef:(s.fZ t b sz k n els).fr x=if x=t then .seq sz ((els.drop k).take n) else s.fr x:=rfl
 rw[ef]
 show D.is w (s.H.del b).others _ _
 by_cases hx:x=t
 ·subst hx
  simp only[fO]
  have h0:=m.fr x
  rw[ht] at h0
  exact XW m.H hb aS h0
 ·simp only[aA hx]
  exact m2.fr x
theorem IY {cx:Cx} {c:Code} {Q:Exit->St->Prop} {s:St} (t:Nat) {b o sz k n:Nat} {ty:TypeId} {els:List (List D)} (ht:s.fr t=.os b o sz k n) (hb:s.H b=some (.row ty o sz els)) (aS:k+n<=els.length)
  (h:W cx c Q (s.fZ t b sz k n els)):W cx c Q s:=fun a w m=>h a w (aFT ht hb aS m)
theorem bE.a09 {P:Program} {f:FuncId} {ds ds0:List D} {H H0:aC} {K:D->aC->Prop} (h:bE P f ds0 H0 K) (aS:H0.le H) (hv:∀w vs,iK w H->aW w H.others ds vs->aW w H0.others ds0 vs):bE P f ds H K:=
 And.intro h.1 fun w vs zD hH hG=>(h.2 w vs (hv w vs hH zD) (hH.less aS) (hG.le aS)).mono fun e w' ⟨v,d,H',he,hd,hH',lO,hk⟩=>
  ⟨v,d,H',he,hd,hH',⟨lO.os,lO.tape,lO.output,lO.size,fun b hb hn=>lO.fS b hb (by
   cases hx:H0 b with
   |none=>rfl
   |some x=>have:=aS b x hx;rw[hn] at this;cases this),lO.shape⟩,hk⟩
theorem aHp {cx:Cx} {s:St} {a:Act} {w:World} (t:Nat) (d:D) (h:∀w v,D.is w s.H.others (s.fr t) v->D.is w s.H.others d v) (m:dF cx s a w):dF cx (s.put (some t) d) a w:=by
 refine⟨m.n,m.df,fun x=>?_,m.H,m.ev⟩
 have ef:(s.put (some t) d).fr x=if x=t then d else s.fr x:=rfl
 rw[ef]
 show D.is w s.H.others _ _
 by_cases hx:x=t
 ·subst hx
  rw[aE rfl]
  exact h w _ (m.fr x)
 ·rw[aA hx]
  exact m.fr x
theorem aND {cx:Cx} {c:Code} {Q:Exit->St->Prop} {s:St} (t:Nat) (d:D) (h:∀w v,D.is w s.H.others (s.fr t) v->D.is w s.H.others d v) (hw:W cx c Q (s.put (some t) d)):W cx c Q s:=fun a w m=>hw a w (aHp t d h m)
theorem YU {w:World} {S:Nat->Prop} {sz:Nat} {v:Value} (h:D.is w S (.val (.slice none 0 0)) v):D.is w S (.seq sz []) v:=by
 have e:=dZ h
 subst e
 simp only[D.is]
 exact⟨none,0,rfl,dI _,.inl trivial⟩
end Go.Proofs.YtfiipaodjpiooaaGreatDoor

