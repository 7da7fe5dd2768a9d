/- Lemmas and contracts of functions, several texts in one. -/
import Derived.Test.YtelbfbioomcmeaaGreatDoorQ17
set_option maxRecDepth 100000
set_option maxHeartbeats 4000000
set_option linter.all false
namespace Go.Proofs.YtelbfbioomcmeaaGreatDoor
open Go.RowKit
def VO (aV:List Oper) (OU:List Nat) (k:Nat):Bool:=decide (k<aV.length)&&((List.range k).all fun i=>(OU.getD k 0).testBit i)&&(aV.zipIdx.all fun (o,j)=>decide (j<=k)||(o.after.toList.any fun e=>Region.binds .any e&&e.on==j - 1))
theorem rW {aV:List Oper} {listed:Array Bool} {i:Nat}:i∈Region.ready .any aV.toArray listed↔i<aV.length/\listed.getD i true=false/\∀o,aV[i]?=some o->∀e∈o.after.toList,Region.binds .any e=true->listed.getD e.on false=true:=by
 unfold Region.ready
 rw[tP]
 have h1:i∈List.range aV.toArray.size↔i<aV.length:=by simp
 rw[h1]
 refine and_congr_right fun hi=>?_
 obtain⟨o,ho⟩:∃o,aV[i]?=some o:=⟨aV[i],by simp [hi]⟩
 have J0:aV.toArray[i]?=some o:=by simpa using ho
 rw[J0,ho]
 simp only[eF,wA,jV,wB]
 refine and_congr_right fun _=>?_
 rw[<-DN,eD]
 constructor
 ·intro h o2 BO e he hb
  injection BO with BO
  subst BO
  have:=h e he
  rw[hb] at this
  simpa using this
 ·intro h e he
  cases hb:Region.binds .any e with
  |false=>simp
  |true=>simpa using h o rfl e he hb
theorem X9 {F:Fence} {n:Nat} {P:Program} {aV:List Oper} {Q:Exit->Act->World->Prop} {k:Nat} (mX:tJ aV=true) (hch:∀(j:Nat) (o:Oper),aV[j]?=some o->k<j->∃e∈o.after.toList,Region.binds .any e=true/\e.on=j - 1):
  ∀(hQ j:Nat) (listed:Array Bool) (a:Act) (w:World),k<=j->aV.length<=j+hQ->listed.size=aV.length->(∀i,i<aV.length->listed.getD i true=decide (i<j))->wpListIn F n P aV.toArray Q (aV.drop j) a w->wpAnyIn F n P .any aV.toArray Q hQ listed a w:=by
 have done:∀(j:Nat) (listed:Array Bool),aV.length<=j->(∀i,i<aV.length->listed.getD i true=decide (i<j))->∀i,i∉Region.ready .any aV.toArray listed:=fun j listed hj m7 i hi=>by
  obtain⟨h1,h2,_⟩:=rW.1 hi
  rw[m7 i h1,bF (by omega)] at h2
  cases h2
 intro hQ
 induction hQ with
 |zero=>
  intro j listed a w hk hl lE m7 h
  rw[zN (by omega)] at h
  exact⟨O0.2 (done j listed (by omega) m7),h⟩
 |succ hQ ih=>
  intro j listed a w hk hl lE m7 h
  by_cases hj:j<aV.length
  ·have ho:aV[j]?=some aV[j]:=by simp [hj]
   have hgd:∀i,i<aV.length->listed.getD i false=listed.getD i true:=fun i hi=>by
    have:i<listed.size:=by omega
    simp [Array.getD,this]
   have hjr:j∈Region.ready .any aV.toArray listed:=rW.2 ⟨hj,by rw[m7 j hj];simp,fun o BO e he hb=>by
    have h1:=lQ mX BO e he hb
    rw[hgd _ (by omega),m7 _ (by omega),bF h1]⟩
   refine⟨fun hr=>(by rw[hr] at hjr;exact absurd hjr List.not_mem_nil),fun i hi=>?_⟩
   obtain⟨h1,h2,h3⟩:=rW.1 hi
   rw[m7 i h1] at h2
   have hij:i=j:=by
    refine kF fun fP=>?_
    have hji:j<i:=by have:=of_decide_eq_false h2;omega
    obtain⟨o,BO⟩:∃o,aV[i]?=some o:=⟨aV[i],by simp [h1]⟩
    obtain⟨e,he,hb,hon⟩:=hch i o BO (by omega)
    have h4:=h3 o BO e he hb
    rw[hon,hgd _ (by omega),m7 _ (by omega)] at h4
    have:=zU h4
    omega
   subst hij
   rw[dI hj] at h
   have CV:∀a w,wpListIn F n P aV.toArray Q (aV.drop (i+1)) a w->wpAnyIn F n P .any aV.toArray Q hQ (listed.setIfInBounds i true) a w:=fun a w hh=>ih (i+1) _ a w (by omega) (by omega) (by simpa using lE) (fun m hm=>by
    have BM:(listed.setIfInBounds i true).getD m true=if m=i then true else listed.getD m true:=uQ _ _ _ _ _ (by omega)
    rw[BM]
    by_cases e:m=i
    ·rw[aH e,bF (by omega)]
    ·rw[aD e,m7 m hm]
     by_cases h5:m<i
     ·rw[bF h5,bF (by omega)]
     ·rw[bC h5,bC (by omega)]) hh
   unfold wpOpIn
   have J0:aV.toArray[i]?=some aV[i]:=by simpa using ho
   rw[J0]
   unfold wpListIn at h
   simp only
   split at h
   ·rename_i hw
    rw[aH hw]
    exact Oper.wpIn_mono CV h
   ·rename_i hw
    rw[aD hw]
    exact⟨h.1,CV _ _ h.2⟩
  ·rw[zN (by omega)] at h
   exact⟨fun _=>h,fun i hi=>absurd hi (done j listed (by omega) m7 i)⟩
theorem YU {cx:Cx} {G:Option Tmp->List D->D->aA->Prop} {H:aA} {aV:List Oper} {OU:List Nat} {k:Nat} {Q:Exit->St->Prop} (eX:eP cx.n aV=true) (mX:tJ aV=true) (EF:JL aV OU=true) (AL:VO aV OU k=true):
  ∀(hQ:Nat) (R:List Nat) (listed:Array Bool) (s:St) (a:Act) (w:World),R.length+(aV.length - k)<=hQ->R.Pairwise (·<·)->(∀i∈R,i<k)->listed.size=aV.length->(∀i,i<aV.length->(listed.getD i true=false↔i∈R\/k<=i))->
  (∀(j:Nat) (o:Oper),aV[j]?=some o->j<k->j∉R->∀e∈o.after.toList,Region.binds .any e=true->e.on∉R)->
  H.le s.H->cH cx s a w->G4 cx.P G H aV.toArray (WL cx aV.toArray (aV.drop k) Q) (R.filterMap (aV[·]?)) s->wpAnyIn (FR cx.ro) 9 cx.P .any aV.toArray (QQ cx Q) hQ listed a w:=by
 unfold VO at AL
 rw[eF,eF,jU,eD,eD] at AL
 obtain⟨⟨F8,aXD⟩,aGn⟩:=AL
 have hch:∀(j:Nat) (o:Oper),aV[j]?=some o->k<j->∃e∈o.after.toList,Region.binds .any e=true/\e.on=j - 1:=fun j o ho hj=>by
  have:=aGn (o,j) (BZ.2 (by simpa using ho))
  simp only[zW,jU,List.any_eq_true,eF,wL] at this
  rcases this with h|⟨e,h1,h2,h3⟩
  ·omega
  ·exact⟨e,h1,h2,h3⟩
 intro hQ
 induction hQ with
 |zero=>
  intro R listed s a w eB
  omega
 |succ hQ ih=>
  intro R listed s a w eB hp hRk lE m7 B2 aR m h
  rcases R with _|⟨r,R0⟩
  ·refine X9 mX hch (hQ+1) k listed a w (fA _) (by simp at eB;omega) lE (fun i hi=>?_) (h a w m)
   by_cases JY:i<k
   ·rw[bF JY]
    cases hl:listed.getD i true with
    |true=>rfl
    |false=>rcases(m7 i hi).1 hl with h1|h1;cases h1;omega
   ·rw[bC JY]
    exact(m7 i hi).2 (.inr (by omega))
  ·obtain⟨R,hR⟩:∃R,R=r::R0:=⟨_,rfl⟩
   have hrR:r∈R:=by rw[hR];simp
   rw[<-hR] at eB hp hRk m7 B2 h
   have hgd:∀i,i<aV.length->listed.getD i false=listed.getD i true:=fun i hi=>by
    have:i<listed.size:=by omega
    simp [Array.getD,this]
   have aDz:∀i,i∈Region.ready .any aV.toArray listed->i<k:=fun i hi=>by
    obtain⟨h1,h2,h3⟩:=rW.1 hi
    refine kF fun JY=>?_
    obtain⟨o,ho⟩:∃o,aV[i]?=some o:=⟨aV[i],by simp [h1]⟩
    by_cases e:i=k
    ·subst e
     have IM:∀(j:Nat) (o:Oper),aV[j]?=some o->j∉R++List.range' i (aV.length - i)->∀e∈o.after.toList,Region.binds .any e=true->e.on∉R++List.range' i (aV.length - i):=fun j o2 BO hj e he hb=>by
      have kR:j<aV.length:=(kD.1 BO).1
      rw[cS,List.mem_range'_1] at hj ⊢
      have h4:=lQ mX BO e he hb
      rintro(h5|h5)
      ·exact B2 j o2 BO (by omega) (fun h=>hj (.inl h)) e he hb h5
      ·omega
     have h5:=aFn EF mX IM i o ho (fun e he hb jX=>by
      have h6:=h3 o ho e he hb
      have h7:=lQ mX ho e he hb
      rw[hgd _ (by omega)] at h6
      have h8:=(m7 e.on (by omega)).2 (by
       rcases cS.1 jX with h|h
       ·exact .inl h
       ·rw[List.mem_range'_1] at h;exact .inr h.1)
      rw[h6] at h8;cases h8) r (hRk r hrR) (aXD r (rM.2 (hRk r hrR)))
     exact h5 (List.mem_append_left _ hrR)
    ·obtain⟨ed,he,hb,hon⟩:=hch i o ho (by omega)
     have h6:=h3 o ho ed he hb
     rw[hon,hgd _ (by omega)] at h6
     have h8:=(m7 (i - 1) (by omega)).2 (.inr (by omega))
     rw[h6] at h8;cases h8
   have aFc:∀i∈R,r<=i:=fun i hi=>by
    rw[hR] at hi hp
    rcases eG.1 hi with h|h
    ·omega
    ·have:=(yK.1 hp).1 i h;omega
   have hrk:=hRk r hrR
   have sL:r∈Region.ready .any aV.toArray listed:=rW.2 ⟨by omega,(m7 r (by omega)).2 (.inl hrR),fun o ho e he hb=>by
    have h1:=lQ mX ho e he hb
    rw[hgd _ (by omega)]
    cases hl:listed.getD e.on true with
    |true=>rfl
    |false=>
     rcases(m7 e.on (by omega)).1 hl with h2|h2
     ·have:=aFc _ h2;omega
     ·omega⟩
   refine⟨fun hr=>(by rw[hr] at sL;exact absurd sL List.not_mem_nil),fun i hi=>?_⟩
   have JY:=aDz i hi
   obtain⟨h1,h2,h3⟩:=rW.1 hi
   have hiR:i∈R:=by
    rcases(m7 i h1).1 h2 with h|h
    ·exact h
    ·omega
   clear sL aFc hrk hR hrR
   obtain⟨o,ho⟩:∃o,aV[i]?=some o:=⟨aV[i],by simp [h1]⟩
   have aF6:∀e∈o.after.toList,Region.binds .any e=true->e.on∉R:=fun e he hb jX=>by
    have h4:=h3 o ho e he hb
    have h5:=lQ mX ho e he hb
    rw[hgd _ (by omega)] at h4
    have h6:=(m7 e.on (by omega)).2 (.inl jX)
    rw[h4] at h6;cases h6
   obtain⟨pre,post,rfl⟩:=List.append_of_mem hiR
   obtain⟨oA,Q3,hpw⟩:=vQ hp
   have jX:∀p∈pre.filterMap (aV[·]?),tC aV.toArray p o/\p∈aV:=fun p BP=>by
    obtain⟨j,hj,hjp⟩:=List.mem_filterMap.1 BP
    exact⟨xQ mX (oA j hj) hjp ho fun e he hb hek=>aF6 e he hb (by rw[hek];simp [hj]),jQ hjp⟩
   have vM:(pre++i::post).filterMap (aV[·]?)=pre.filterMap (aV[·]?)++o::post.filterMap (aV[·]?):=by
    rw[yI,HC,ho]
   rw[vM] at h
   have Q4:=OY eX jX h aR m
   have EA:=(xV cx.P G H aV.toArray s o).1 _ Q4
   refine wpOpIn_mono ?_ (tK aR eX ho EA m)
   rintro a' w' ⟨d,A,qA,hA,m'⟩
   have h4:=EZ (fun p BP=>(jX p BP).1) h qA hA
   have T7:∀j,j∈pre++post->j∈pre++i::post:=fun j hj=>by
    rcases cS.1 hj with h|h
    ·simp [h]
    ·simp [h]
   have aF5:∀j,j∈pre++i::post->j≠i->j∈pre++post:=fun j hj fP=>by
    rcases cS.1 hj with h|h
    ·simp [h]
    ·rcases eG.1 h with h|h
     ·exact absurd h fP
     ·simp [h]
   refine ih (pre++post) _ (s.out o d A) a' w' ?_ hpw (fun j hj=>hRk j (T7 j hj)) (by simpa using lE) (fun j hj=>?_) (fun j o2 BO hjk hj e he hb ED=>?_) (by rw[nB];exact tR aR (AB hA)) m' (by rw[yI];exact h4)
   ·simp at eB ⊢;omega
   ·have BM:(listed.setIfInBounds i true).getD j true=if j=i then true else listed.getD j true:=uQ _ _ _ _ _ (by omega)
    rw[BM]
    by_cases e:j=i
    ·rw[aH e]
     constructor
     ·intro h;cases h
     ·rintro(h|h)
      ·subst e
       rcases cS.1 h with h|h
       ·have:=oA _ h;omega
       ·have:=Q3 _ h;omega
      ·omega
    ·rw[aD e,m7 j hj]
     exact⟨fun h=>h.imp (fun h=>aF5 j h e) id,fun h=>h.imp (fun h=>T7 j h) id⟩
   ·by_cases e2:j=i
    ·subst e2
     rw[ho] at BO
     injection BO with BO
     subst BO
     exact aF6 e he hb (T7 _ ED)
    ·exact B2 j o2 BO hjk (fun h=>hj (aF5 j h e2)) e he hb (T7 _ ED)
theorem XS {cx:Cx} {id:Nat} {aV:List Oper} {Q:Exit->St->Prop} {s:St} (k:Nat) (G:Option Tmp->List D->D->aA->Prop) (hm:cx.P.follows .mixedOrders=true) (eX:eP cx.n aV=true) (mX:tJ aV=true) (EF:JL aV (FU aV)=true) (AL:VO aV (FU aV) k=true)
  (h:∀N:St->Prop,(∀s,WL cx aV.toArray (aV.drop k) Q s->N s)->G4 cx.P G s.H aV.toArray N (aV.take k) s):W cx (.region id aV.toArray true) Q s:=fun a w m=>by
 refine wpIn_region_any hm ?_
 have m':cH cx s a w.drew:=m.go (pQ s.H w) m.H.drew
 have F8:k<aV.length:=by
  unfold VO at AL
  rw[eF,eF,jU] at AL
  exact AL.1.1
 have e:(List.range k).filterMap (aV[·]?)=aV.take k:=by
  rw[pR (g:=fun i=>aV.getD i default) fun i hi=>by
   have:i<k:=by simpa using hi
   have:i<aV.length:=by omega
   simp [List.getD,this]]
  apply uH
  intro i
  by_cases hi:i<k
  ·have:i<aV.length:=by omega
   simp [hi,List.getD,nU,this]
  ·simp [hi,nU]
 refine YU eX mX EF AL _ (List.range k) _ s a _ (by simp;omega) O3 (fun i hi=>rM.1 hi) (by simp) (fun i hi=>?_) (fun j o ho hjk hj=>absurd (rM.2 hjk) hj) (aE _) m' (by rw[e];exact h _ fun _ h=>h)
 constructor
 ·intro _
  rw[rM];omega
 ·intro _
  simp [Array.getD,hi]
open Tryz
def tmZ:PM:=⟨2,[],[],⟨0,[]⟩,ByteArray.empty⟩
def zS:iF:=⟨s0,[],[],[],[],0,[⟨[],tmZ⟩]⟩
theorem aA6 (n:Int) {H0 H:aA} {b:Nat} {t:List ByteArray} {l:List UInt8} (h:WS H0 b l H) (hl:(l++oX n).length<=1000000000):aT prog 102 [AT b t,i64 n] H fun d H'=>WS H0 b (l++oX n) H':=by
 have hn:=XL n
 have e:IntKind.u64.wrap n=((IntKind.u64.wrap n).toNat:Int):=by omega
 rw[bJ] at hl
 unfold AT
 refine aN _ _ func102 rfl rfl ntmps102 results102 (by simp) fun w0 g0 Q aC=>?_
 refine tq @fY.eq_1 ?_;intro Nx aB Gx aG
 rw[e]
 refine(G5 _ (by omega) h (by omega)).mono ?_
 intro d H' h2
 refine tq trivial ?_;intro Nx aB Gx aG
 refine rt aC trivial ?_
 exact⟨_,aE _,h2⟩
theorem aGK {b:Nat} {t:List ByteArray} (H:aA):aT prog 197 [AT b t,.seq 4 [],.val (.bool false)] H fun d H'=>H=H':=by
 unfold AT
 refine aN _ _ func197 rfl rfl ntmps197 results197 (by simp) fun w0 g0 Q aC=>?_
 refine tq @fY.eq_1 ?_;intro Nx aB Gx aG
 refine bB 0 (fun i s=>s.df=[]/\s.H=H/\s.fr 14=i64 0/\s.fr 15=i64 0) ⟨rfl,rfl,rfl,rfl⟩ ?_
 rintro i s hi ⟨bG,hH,f14,f15⟩
 refine tq (cZ f14 f15) ?_;intro Nx aB Gx aG
 refine rt aC bG ?_
 exact⟨_,aE _,hH.symm⟩
theorem aDP {H0 H:aA} {b:Nat} {t:List ByteArray} {l:List UInt8} (h:WS H0 b l H) (hl:l.length<=1000):aT prog 104 [AT b t,.agg (SI tmZ)] H fun d H'=>WS H0 b (l++[2]) H':=by
 have w1:IntKind.u8.wrap 2=((2:UInt8).toNat:Int):=by rw[qK];rfl
 have tA:=fun H1=>aGK (b:=b) (t:=t) H1
 unfold AT fY SI tmZ at *
 refine aN _ _ func104 rfl rfl ntmps104 results104 (by simp) fun w0 g0 Q aC=>?_
 refine tq trivial ?_;intro Nx aB Gx aG
 intro c hc
 refine aB _ ?_
 refine fW 3 hc ?_
 refine tq trivial ?_;intro Nx aB Gx aG
 refine XS 7 (fun _ _ _ _=>False) (by kernel_rfl) (by kernel_rfl) (by kernel_rfl) (by kernel_rfl) (by kernel_rfl) fun Nx aB=>?_
 refine dst w1 ?_;intro Nx aB Gx aG
 (first|refine aG _ ?_|refine aB _ ?_|skip)
 show WL _ _ (_::_) _ _
 refine tq trivial ?_;intro Nx aB Gx aG
 refine(XO 2 h (by omega)).mono ?_
 intro d H1 h1
 refine tq trivial ?_;intro Nx aB Gx aG
 refine(tA _).mono ?_
 rintro d _ rfl
 refine tq trivial ?_;intro Nx aB Gx aG
 refine bB 0 (fun i s=>s.df=[]/\s.H=H1/\s.fr 58=i64 0/\s.fr 59=i64 0) ⟨rfl,rfl,rfl,rfl⟩ ?_
 rintro i s hi ⟨bG,hH,f58,f59⟩
 refine tq (cZ f58 f59) ?_;intro Nx aB Gx aG
 refine rt aC bG ?_
 exact⟨_,aE _,by rw[hH];exact h1⟩
theorem XY (t:List ByteArray) (H:aA) (fF:∀H1,aT prog 22 [.agg (iG zS)] H1 fun d H'=>d=i64 0/\H1=H'):aT prog 45 [.agg (iG zS),fY t] H fun d H'=>d=.fV [.seq 1 ([1,0,2].map bD),i64 0]/\H=H':=by
 have n1:oX 1=[1]:=by decide
 have n0:oX 0=[0]:=by decide
 have aFe:=fun {H0 H1:aA} {b:Nat} {l:List UInt8} (h:WS H0 b l H1)=>aDP (t:=t) h
 have hbk:List.map rE zS.bl=[[.seq 11 [],i64 2,.seq 1 [],.seq 4 [],i64 0,.seq 2 [],bX ByteArray.empty]]:=rfl
 unfold iG at fF ⊢
 rw[hbk] at fF ⊢
 unfold SI tmZ at aFe
 unfold fY at *
 refine aN _ _ func45 rfl rfl ntmps45 results45 (by simp) fun w0 g0 Q aC=>?_
 refine tq trivial ?_;intro Nx aB Gx aG
 intro c hc
 refine aB _ ?_
 refine fW 2 hc ?_
 refine tq trivial ?_;intro Nx aB Gx aG
 refine(fF _).mono ?_
 rintro d _ ⟨rfl,rfl⟩
 refine tq trivial ?_;intro Nx aB Gx aG
 refine(yA _).mono ?_
 rintro d H1 ⟨w,rfl,hW⟩
 refine tq trivial ?_;intro Nx aB Gx aG
 intro e he
 refine aB _ ?_
 refine fW 6 he ?_
 refine tq trivial ?_;intro Nx aB Gx aG
 refine(aA6 1 (t:=t) hW (by rw[n1];decide)).mono ?_
 rw[n1]
 intro d H2 hW2
 refine tq trivial ?_;intro Nx aB Gx aG
 refine bB 1 (fun i s=>s.df=[]/\s.fr 6=AT w t/\s.fr 28=.seq 7 [[.seq 11 [],i64 2,.seq 1 [],.seq 4 [],i64 0,.seq 2 [],bX ByteArray.empty]]/\s.fr 29=i64 1/\s.fr 30=i64 i/\((i=0/\WS H w [1] s.H)\/(i=1/\WS H w [1,0,2] s.H))) ⟨rfl,rfl,rfl,rfl,rfl,.inl ⟨rfl,hW2⟩⟩ ?_
 rintro i s hi ⟨bG,f6,f28,f29,f30,(⟨rfl,hW3⟩|⟨rfl,hW3⟩)⟩
 ·refine tq (fJ f6 f28 f29 f30) ?_;intro Nx aB Gx aG
  intro c8 NS
  refine aB _ ?_
  refine fW 8 NS ?_
  refine tq f6 ?_;intro Nx aB Gx aG
  refine(aA6 0 (t:=t) hW3 (by rw[n0];decide)).mono ?_
  rw[n0]
  intro d H4 hW4
  refine tq f6 ?_;intro Nx aB Gx aG
  refine bB 0 (fun j s2=>s2.df=[]/\s2.fr 6=AT w t/\s2.fr 8=.rp [.seq 11 [],i64 2,.seq 1 [],.seq 4 [],i64 0,.seq 2 [],bX ByteArray.empty]/\s2.fr 28=s.fr 28/\s2.fr 29=i64 1/\s2.fr 30=i64 0/\s2.fr 41=i64 0/\s2.fr 42=i64 0/\s2.H=H4) ⟨bG,f6,rfl,rfl,f29,f30,rfl,rfl,rfl⟩ ?_
  rintro j s2 hj ⟨gdf,g6,g8,g28,g29,g30,g41,g42,gH⟩
  refine tq (fJ g6 g8 g41 g42) ?_;intro Nx aB Gx aG
  rw[gH]
  refine(aFe hW4 (by decide)).mono ?_
  intro d H5 hW5
  refine tq g30 ?_;intro Nx aB Gx aG
  exact⟨Nat.zero_lt_one,gdf,g6,g28.trans f28,g29,rfl,.inr ⟨trivial,hW5⟩⟩
 ·refine tq (gE f6 f28 f29 f30 @AT.eq_1) ?_;intro Nx aB Gx aG
  refine(JQ hW3 (by decide)).mono ?_
  rintro d _ ⟨rfl,rfl⟩
  refine tq trivial ?_;intro Nx aB Gx aG
  refine rt aC bG ?_
  exact⟨_,aE _,rfl⟩
end Go.Proofs.YtelbfbioomcmeaaGreatDoor
