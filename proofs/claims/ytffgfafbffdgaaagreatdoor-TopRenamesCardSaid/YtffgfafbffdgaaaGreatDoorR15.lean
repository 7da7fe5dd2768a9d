/- Lemmas and contracts of functions, several texts in one. -/
import Derived.Test.YtffgfafbffdgaaaGreatDoorR12
import Derived.Test.YtffgfafbffdgaaaGreatDoorR14
set_option maxRecDepth 100000
set_option maxHeartbeats 4000000
set_option linter.all false
namespace Go.Proofs.YtffgfafbffdgaaaGreatDoor
open Go.RowKit
variable {aY:List Oper}{i k b sz n:Nat}{cx:Cx}{H0 H Hc:aA}{ds:List (List UInt8)}
def Ir (aY:List Oper) (a:List Nat) (k:Nat):Bool:=decide (k<aY.length)&&((List.range k).all λi=>(a.getD k 0).testBit i)&&(aY.zipIdx.all λ(o,j)=>decide (j<=k)||(o.after.toList.any λe=>Region.binds .any e&&e.on==j - 1))
theorem oD {a:Array Bool}:i∈Region.ready .any aY.toArray a↔i<aY.length/\a.getD i true=false/\∀o,aY[i]?=some o->∀e∈o.after.toList,Region.binds .any e=true->a.getD e.on false=true:=by
 unfold Region.ready;rw[fN];have l:i∈List.range aY.toArray.size↔i<aY.length:=by simp
 rw[l];refine and_congr_right λm=>?_;obtain⟨o,ho⟩:∃o,aY[i]?=some o:=⟨aY[i],by simp [m]⟩;have j:aY.toArray[i]?=some o:=by simpa using ho
 rw[j,ho];simp only[cX,mY,gJ,rF];refine and_congr_right λ_=>?_;rw[<-wQ,dK];constructor
 ·intro h p c e g f
  injection c with c
  subst c;have:=h e g;rw[f] at this;simpa using this
 ·intro h e g
  cases f:Region.binds .any e with
  |false=>simp
  |true=>simpa using h o rfl e g f
theorem Kg {F:Fence}{n:Nat}{P:Program}{Q:Exit->Act->World->Prop}(jr:ow aY=true)(A:∀(j:Nat) (o:Oper),aY[j]?=some o->k<j->∃e∈o.after.toList,Region.binds .any e=true/\e.on=j - 1):
  ∀(g j:Nat) (c:Array Bool) (a:Act) (w:World),k<=j->aY.length<=j+g->c.size=aY.length->(∀i,i<aY.length->c.getD i true=decide (i<j))->wpListIn F n P aY.toArray Q (aY.drop j) a w->wpAnyIn F n P .any aY.toArray Q g c a w:=by
 have done:∀(j:Nat) (c:Array Bool),aY.length<=j->(∀i,i<aY.length->c.getD i true=decide (i<j))->∀i,i∉Region.ready .any aY.toArray c:=λj c v f i r=>by
  obtain⟨p,t,_⟩:=oD.1 r;rw[f i p,ah (by omega)] at t;cases t
 intro g
 induction g with
 |zero=>
  intro j c a w S T ir f h
  rw[pK (by omega)] at h
  exact⟨Ek.2 (done j c (by omega) f),h⟩
 |succ g ih=>
  intro j c a w S T ir f h
  by_cases v:j<aY.length
  ·have ho:aY[j]?=some aY[j]:=by simp [v]
   have u:∀i,i<aY.length->c.getD i false=c.getD i true:=λi r=>by
    have:i<c.size:=by omega
    simp [Array.getD,this]
   have x:j∈Region.ready .any aY.toArray c:=oD.2 ⟨v,by rw[f j v];simp,λo l e B z=>by
    have p:=jG jr l e B z;rw[u _ (by omega),f _ (by omega),ah p]⟩
   refine⟨λhr=>(by rw[hr] at x;exact absurd x List.not_mem_nil),λi r=>?_⟩
   obtain⟨p,t,M⟩:=oD.1 r
   rw[f i p] at t
   have E:i=j:=by
    refine eC λZ=>?_;have R:j<i:=by have:=of_decide_eq_false t;omega
    obtain⟨o,l⟩:∃o,aY[i]?=some o:=⟨aY[i],by simp [p]⟩;obtain⟨e,B,z,I⟩:=A i o l (by omega);have K:=M o l e B z;rw[I,u _ (by omega),f _ (by omega)] at K;have:=rD K;omega
   subst E
   rw[cL v] at h
   have s:∀a w,wpListIn F n P aY.toArray Q (aY.drop (i+1)) a w->wpAnyIn F n P .any aY.toArray Q g (c.setIfInBounds i true) a w:=λa w N=>ih (i+1) _ a w (by omega) (by omega) (by simpa using ir) (λm V=>by
    have y:(c.setIfInBounds i true).getD m true=if m=i then true else c.getD m true:=qB _ _ _ _ _ (by omega)
    rw[y];by_cases e:m=i
    ·rw[aD e,ah (by omega)]
    ·rw[aC e,f m V]
     by_cases L:m<i
     ·rw[ah L,ah (by omega)]
     ·rw[af L,af (by omega)]) N
   unfold wpOpIn
   have G:aY.toArray[i]?=some aY[i]:=by simpa using ho
   rw[G]
   unfold wpListIn at h
   simp only
   split at h
   ·rename_i J
    rw[aD J]
    exact Oper.wpIn_mono s h
   ·rename_i J
    rw[aC J]
    exact⟨h.1,s _ _ h.2⟩
  ·rw[pK (by omega)] at h
   exact⟨λ_=>h,λi r=>absurd r (done j c (by omega) f i)⟩
theorem LC {G:Option Tmp->List D->D->aA->Prop}{H:aA}{a6:List Nat}{Q:Exit->St->Prop}(dC:dQ cx.n aY=true)(T:ow aY=true)(xE:BD aY a6=true)(M:Ir aY a6 k=true):
  ∀(x:Nat) (R:List Nat) (c:Array Bool) (s:St) (a:Act) (w:World),R.length+(aY.length - k)<=x->R.Pairwise (·<·)->(∀i∈R,i<k)->c.size=aY.length->(∀i,i<aY.length->(c.getD i true=false↔i∈R\/k<=i))->
  (∀(j:Nat) (o:Oper),aY[j]?=some o->j<k->j∉R->∀e∈o.after.toList,Region.binds .any e=true->e.on∉R)->
  H.le s.H->bj cx s a w->yx cx.P G H aY.toArray (WL cx aY.toArray (aY.drop k) Q) (R.filterMap (aY[·]?)) s->wpAnyIn (FR cx.ro) 9 cx.P .any aY.toArray (QQ cx Q) x c a w:=by
 unfold Ir at M;rw[cX,cX,dF,dK,dK] at M;obtain⟨⟨b2,ak⟩,ag⟩:=M;have a4:∀(j:Nat) (o:Oper),aY[j]?=some o->k<j->∃e∈o.after.toList,Region.binds .any e=true/\e.on=j - 1:=λj o ho v=>by
  have:=ag (o,j) (ui.2 (by simpa using ho));simp only[rJ,dF,tO,cX,rN] at this;rcases this with h|⟨e,h1,h2,V⟩
  ·omega
  ·exact⟨e,h1,h2,V⟩
 intro x
 induction x with
 |zero=>
  intro R c s a w cd
  omega
 |succ x ih=>
  intro R c s a w cd hp B ir f N aM m h
  rcases R with _|⟨r,R0⟩
  ·refine Kg T a4 (x+1) k c a w (bh _) (by simp at cd;omega) ir (λi E=>?_) (h a w m)
   by_cases wZ:i<k
   ·rw[ah wZ]
    cases hl:c.getD i true with
    |true=>rfl
    |false=>rcases(f i E).1 hl with h1|h1;cases h1;omega
   ·rw[af wZ]
    exact(f i E).2 (.inr (by omega))
  ·obtain⟨R,hR⟩:∃R,R=r::R0:=⟨_,rfl⟩
   have z:r∈R:=by rw[hR];simp
   rw[<-hR] at cd hp B f N h
   have J:∀i,i<aY.length->c.getD i false=c.getD i true:=λi E=>by
    have:i<c.size:=by omega
    simp [Array.getD,this]
   have ae:∀i,i∈Region.ready .any aY.toArray c->i<k:=λi E=>by
    obtain⟨h1,h2,V⟩:=oD.1 E;refine eC λwZ=>?_;obtain⟨o,ho⟩:∃o,aY[i]?=some o:=⟨aY[i],by simp [h1]⟩;by_cases e:i=k
    ·subst e
     have aa:∀(j:Nat) (o:Oper),aY[j]?=some o->j∉R++List.range' i (aY.length - i)->∀e∈o.after.toList,Region.binds .any e=true->e.on∉R++List.range' i (aY.length - i):=λj o2 g v e t l=>by
      have b1:j<aY.length:=(gI.1 g).1;rw[bB,List.mem_range'_1] at v ⊢;have h4:=jG T g e t l;rintro(h5|h5)
      ·exact N j o2 g (by omega) (λh=>v (.inl h)) e t l h5
      ·omega
     have h5:=VA xE T aa i o ho (λe t l y=>by
      have K:=V o ho e t l;have h7:=jG T ho e t l;rw[J _ (by omega)] at K;have h8:=(f e.on (by omega)).2 (by
       rcases bB.1 y with h|h
       ·exact .inl h
       ·rw[List.mem_range'_1] at h;exact .inr h.1)
      rw[K] at h8;cases h8) r (B r z) (ak r (ib.2 (B r z)))
     exact h5 (o8 _ z)
    ·obtain⟨ed,t,l,ar⟩:=a4 i o ho (by omega)
     have K:=V o ho ed t l;rw[ar,J _ (by omega)] at K;have h8:=(f (i - 1) (by omega)).2 (.inr (by omega));rw[K] at h8;cases h8
   have a3:∀i∈R,r<=i:=λi E=>by
    rw[hR] at E hp;rcases bV.1 E with h|h
    ·omega
    ·have:=(oa.1 hp).1 i h;omega
   have b0:=B r z
   have L:r∈Region.ready .any aY.toArray c:=oD.2 ⟨by omega,(f r (by omega)).2 (.inl z),λo ho e t l=>by
    have h1:=jG T ho e t l;rw[J _ (by omega)];cases hl:c.getD e.on true with
    |true=>rfl
    |false=>
     rcases(f e.on (by omega)).1 hl with h2|h2
     ·have:=a3 _ h2;omega
     ·omega⟩
   refine⟨λhr=>(by rw[hr] at L;exact absurd L List.not_mem_nil),λi E=>?_⟩
   have wZ:=ae i E
   obtain⟨h1,h2,V⟩:=oD.1 E
   have am:i∈R:=by
    rcases(f i h1).1 h2 with h|h
    ·exact h
    ·omega
   clear L a3 b0 hR z
   obtain⟨o,ho⟩:∃o,aY[i]?=some o:=⟨aY[i],by simp [h1]⟩
   have a2:∀e∈o.after.toList,Region.binds .any e=true->e.on∉R:=λe t l y=>by
    have h4:=V o ho e t l;have h5:=jG T ho e t l;rw[J _ (by omega)] at h4;have K:=(f e.on (by omega)).2 (.inl y);rw[h4] at K;cases K
   obtain⟨u,post,rfl⟩:=zL am
   obtain⟨Z,ac,aw⟩:=qd hp
   have y:∀p∈u.filterMap (aY[·]?),ot aY.toArray p o/\p∈aY:=λp S=>by
    obtain⟨j,v,a5⟩:=List.mem_filterMap.1 S;exact⟨sF T (Z j v) a5 ho λe t l al=>a2 e t l (by rw[al];simp [v]),eh a5⟩
   have a9:(u++i::post).filterMap (aY[·]?)=u.filterMap (aY[·]?)++o::post.filterMap (aY[·]?):=by rw[pM,zJ,ho]
   rw[a9] at h
   have ad:=Ei dC y h aM m
   have ab:=(sJ cx.P G H aY.toArray s o).1 _ ad
   refine wpOpIn_mono ?_ (pA aM dC ho ab m)
   rintro a' w' ⟨d,A,a8,hA,m'⟩
   have h4:=xZ (λp S=>(y p S).1) h a8 hA
   have I:∀j,j∈u++post->j∈u++i::post:=λj v=>by
    rcases bB.1 v with h|h
    ·simp [h]
    ·simp [h]
   have a1:∀j,j∈u++i::post->j≠i->j∈u++post:=λj v ap=>by
    rcases bB.1 v with h|h
    ·simp [h]
    ·rcases bV.1 h with h|h
     ·exact absurd h ap
     ·simp [h]
   refine ih (u++post) _ (s.out o d A) a' w' ?_ aw (λj v=>B j (I j v)) (by simpa using ir) (λj v=>?_) (λj o2 g L2 v e t l a0=>?_) (by rw[jv];exact iL aM (tR hA)) m' (by rw[pM];exact h4)
   ·simp at cd ⊢;omega
   ·have a7:(c.setIfInBounds i true).getD j true=if j=i then true else c.getD j true:=qB _ _ _ _ _ (by omega)
    rw[a7]
    by_cases e:j=i
    ·rw[aD e]
     constructor
     ·intro h;cases h
     ·rintro(h|h)
      ·subst e
       rcases bB.1 h with h|h
       ·have:=Z _ h;omega
       ·have:=ac _ h;omega
      ·omega
    ·rw[aC e,f j v]
     exact⟨λh=>h.imp (λh=>a1 j h e) id,λh=>h.imp (λh=>I j h) id⟩
   ·by_cases e2:j=i
    ·subst e2
     rw[ho] at g
     injection g with g
     subst g
     exact a2 e t l (I _ a0)
    ·exact N j o2 g L2 (λh=>v (a1 j h e2)) e t l (I _ a0)
theorem ik {id:Nat}{Q:Exit->St->Prop}{s:St}(k:Nat)(G:Option Tmp->List D->D->aA->Prop)(hm:cx.P.follows .mixedOrders=true)(l:dQ cx.n aY=true)(t:ow aY=true)(v:BD aY (yI aY)=true)(c:Ir aY (yI aY) k=true)
  (h:∀N:St->Prop,(∀s,WL cx aY.toArray (aY.drop k) Q s->N s)->yx cx.P G s.H aY.toArray N (aY.take k) s):W cx (.region id aY.toArray true) Q s:=λa w m=>by
 refine wpIn_region_any hm ?_;have u:bj cx s a w.drew:=m.go (nV s.H w) m.H.drew;have r:k<aY.length:=by
  unfold Ir at c;rw[cX,cX,dF] at c;exact c.1.1
 have e:(List.range k).filterMap (aY[·]?)=aY.take k:=by
  rw[mT (g:=λi=>aY.getD i default) λi hi=>by
   have:i<k:=by simpa using hi
   have:i<aY.length:=by omega
   simp [List.getD,this]]
  apply np;intro i;by_cases hi:i<k
  ·have:i<aY.length:=by omega
   simp [hi,List.getD,mP,this]
  ·simp [hi,mP]
 refine LC l t v c _ (List.range k) _ s a _ (by simp;omega) tI (λi hi=>ib.1 hi) (by simp) (λi hi=>?_) (λj o x f p=>absurd (ib.2 f) p) (aF _) u (by rw[e];exact h _ λ_ h=>h);constructor
 ·intro _
  rw[ib];omega
 ·intro _
  simp [Array.getD,hi]
open Tryz
def Xs:ra:=⟨2,[],[],⟨0,[]⟩,ByteArray.empty⟩
def zS:bn:=⟨oA,[],[],[],[],0,[⟨[],Xs⟩]⟩
theorem qS (n:Int){t:List ByteArray}{l:List UInt8}(h:WS H0 b l H)(hl:(l++fy n).length<=1000000000):aN prog 83 [qX b t,i64 n] H λd H'=>WS H0 b (l++fy n) H':=by
 have g:=Ed n;have e:IntKind.u64.wrap n=((IntKind.u64.wrap n).toNat:Int):=by omega
 rw[aV] at hl;unfold qX;refine dO func83 ntmps83 results83 λj f Q a=>?_;refine tq @fB.eq_1 ?_;intro U Y O C;rw[e];refine(wB _ (by omega) h (by omega)).mono ?_;intro d H' c;refine u0 a ?_;exact⟨_,aF _,c⟩
def IL (i:Nat) (d:List UInt8):List UInt8:=UInt8.ofNat (i+1)::(put d.length++dW d)
def jq:Nat->List (List UInt8)->List UInt8
 |_,[]=>[]
 |i,d::l=>IL i d++jq (i+1) l
def Sq:List UInt8:=[77,73,82,84,1]
def gz (ds:List (List UInt8)):List UInt8:=Sq++jq 0 ds
theorem AB:∀(i:Nat) (l m:List (List UInt8)),jq i (l++m)=jq i l++jq (i+l.length) m
 |_,[],_=>rfl
 |i,d::l,m=>by
  simp only[dJ,jq,AB (i+1) l m,bx,bE];rw[show i+(l.length+1)=i+1+l.length by omega]
theorem wx (h:i<ds.length):jq 0 (ds.take (i+1))=jq 0 (ds.take i)++IL i ds[i]:=by
 rw[bw h,AB,bX,mZ (by omega)];simp [jq]
theorem AD (h:i<ds.length):∃r,jq 0 ds=jq 0 (ds.take i)++(IL i ds[i]++r):=by
 refine⟨jq (i+1) (ds.drop (i+1)),?_⟩;have e:ds=ds.take (i+1)++ds.drop (i+1):=(ga _ _).symm;have a:jq 0 ds=jq 0 (ds.take (i+1)++ds.drop (i+1)):=ai _ e;rw[a,AB,wx h,bX,mZ (by omega),bE,kG]
theorem vo (i:Nat)(d:List UInt8):(IL i d).length=1+((put d.length).length+(d.length+4)):=by unfold IL;rw[bx,aV,fM];omega
def XU (i:Nat) (d:List UInt8):List D:=[i64 (i+1:Nat),.seq 1 (d.map bD)]
def tu (ds:List (List UInt8)):List (List D):=ds.mapIdx XU
theorem GR (ds:List (List UInt8)):(tu ds).length=ds.length:=List.length_mapIdx
theorem GQ {ds:List (List UInt8)}{i:Nat}(h:i<ds.length):(tu ds)[i]?=some (XU i ds[i]):=by unfold tu;rw[List.getElem?_mapIdx,az h];rfl
theorem NR (ds:List (List UInt8))(H:aA)(hn:ds.length<=127)(hl:(gz ds).length<=1000000000):aN prog 40 [.seq 2 (tu ds)] H λd H'=>d=.eO [.seq 1 ((gz ds).map bD),i64 0]/\H=H':=by
 refine aq (K:=λd=>d=.eO [.seq 1 ((gz ds).map bD),i64 0]) ?_;have v:=GR ds;have P:(List.map bD Sq).length=5:=rfl;refine dO func40 ntmps40 results40 λw0 g0 Q N=>?_;refine to trivial ?_;intro U Y O C;intro b L R o;obtain⟨n2,o⟩:=bF.1 o;have y:H.le ((H.aU b (.row 5 0 1 [[.val (.int .u8 77)],[.val (.int .u8 73)],[.val (.int .u8 82)],[.val (.int .u8 84)]])).aU R (.row 5 0 1 [[.val (.int .u8 1)]])):=aQ (aQ (aF _) L) o;refine ax (e:=5) qL rfl qL rfl QP rfl (by decide) y (.inr ⟨b,0,rfl,rfl,L,(aJ (Ne.symm n2)).trans (aK _ _ _)⟩:Gl H 5 1 [[.val (.int .u8 77)],[.val (.int .u8 73)],[.val (.int .u8 82)],[.val (.int .u8 84)]] _ _ _) (new:=[[.val (.int .u8 1)]]) (PB (aK _ _ _) rfl) (by decide) λd w j a f _=>?_;refine tn v ?_;refine aO ds.length (λi s=>s.df=[]/\s.fr 12=.seq 2 (tu ds)/\s.fr 13=i64 ds.length/\s.fr 14=i64 i/\s.fr 5=i64 i/\H.le s.H/\∃j,Gl H 5 1 ((Sq++jq 0 (ds.take i)).map bD) (s.fr 4) s.H j) ⟨rfl,rfl,rfl,rfl,rfl,f,j,a⟩ ?_;rintro i s hi ⟨u,l,m,h,z,f,j,a⟩;by_cases c:i<ds.length
 case neg=>
  have J:=lF i ds.length;rw[bK (by omega)] at a;refine ur N (cw l m h z J) u ?_;exact⟨_,aF _,f,_,lI (HP (da f a) (aL f)),rfl⟩
 have J:=lT i ds.length c;have p:=GQ c;unfold XU at p;have V:=aX i;have A:=aZ i;have x:(i:Int)<(ds.length:Int):=by omega
 have q2:=nF (((i+1:Nat):Int)<=(i:Int));have q3:=nF ((127:Int)<((i+1:Nat):Int));have w3:=wS i;have M:=wx c;obtain⟨r,G⟩:=AD c;have Z:(gz ds).length=5+((jq 0 (ds.take i)).length+(1+((put ds[i].length).length+(ds[i].length+4))+r.length)):=by unfold gz;rw[G,aV,aV,aV,vo];rfl
 have I:=fM ds[i];have t:(Sq++jq 0 (ds.take i)).length=5+(jq 0 (ds.take i)).length:=by rw[aV];rfl
 have w1:IntKind.u8.wrap ((i+1:Nat):Int)=((UInt8.ofNat (i+1)).toNat:Int):=by rw[pJ,pN];omega
 obtain⟨g,S⟩:=oX ds[i];rw[<-S] at p Z I M;have E:=lm bD g;have w2:IntKind.u64.wrap (g.length:Int)=(g.length:Int):=iP (by omega);have T:=eX g.length (by omega);refine tq (bG l m h z J p V (cA A v c x)) ?_;intro U Y O C;intro b3 B;refine Y _ ?_;refine cm 7 B ?_;refine tq (cw h z q2 q3 w1) ?_;intro U Y O C;refine ax (e:=5) qL rfl qL rfl QP rfl (by decide) f a (new:=[UInt8.ofNat (i+1)].map bD) (by exact⟨rfl,rfl⟩) (by rw[aS,aS,t];show(_+1) * 1<=_;omega) λd w j a f _=>?_;rw[<-bI] at a;refine tq (av w2 E) ?_;intro U Y O C;refine(Uu g.length _ (by omega)).qt ?_;intro U Y O C;refine ax (e:=5) qL rfl qL rfl QP rfl (by decide) f a (new:=(put g.length).map bD) (by exact⟨rfl,rfl⟩) (by rw[aS,aS,aV,t,eE];show(_+_) * 1<=_;omega) λd w j a f _=>?_;rw[<-bI] at a;refine t0 ?_;intro U Y O C;refine(YP g _ (by omega)).qt ?_;intro U Y O C;refine ax (e:=5) qL rfl qL rfl QP rfl (by decide) f a (new:=(dW g).map bD) (by exact⟨rfl,rfl⟩) (by rw[aS,aS,aV,aV,t,eE];show(_+_) * 1<=_;omega) λd w j a f _=>?_;rw[<-bI] at a;refine tq (av h w3) ?_;intro U Y O C;refine⟨c,u,l,m,rfl,rfl,f,j,?_⟩;have e:Sq++jq 0 (ds.take (i+1))=Sq++jq 0 (ds.take i)++[UInt8.ofNat (i+1)]++put g.length++dW g:=by rw[M];unfold IL;simp
 rw[e];exact a
def u4 (ds:List (List UInt8)) (i:Nat):Nat:=5+(jq 0 (ds.take i)).length
def og (ds:List (List UInt8)) (i:Nat):List UInt8:=ds.getD i []
def FW (ds:List (List UInt8)) (i:Nat):Nat:=u4 ds i+1+(put (og ds i).length).length
def Gh (ds:List (List UInt8)) (i:Nat):Nat:=FW ds i+(og ds i).length
def Nw (ds:List (List UInt8)) (i:Nat):List D:=[i64 (i+1:Nat),i64 (FW ds i),i64 (Gh ds i),i64 0]
theorem zv {ds:List (List UInt8)}{i:Nat}(h:i<ds.length):og ds i=ds[i]:=by simp [og,List.getD,h]
theorem Da (h:i<ds.length):∃p r,gz ds=p++(UInt8.ofNat (i+1)::(put (og ds i).length++(dW (og ds i)++r)))/\p.length=u4 ds i:=by
 obtain⟨r,a⟩:=AD h;refine⟨Sq++jq 0 (ds.take i),r,?_,by rw[aV];rfl⟩;unfold gz;rw[a,zv h];simp [IL]
theorem Ln (h:i<ds.length):u4 ds (i+1)=Gh ds i+4:=by
 unfold Gh FW u4;rw[wx h,aV,vo,zv h];omega
theorem PX (ds:List (List UInt8)):u4 ds ds.length=(gz ds).length:=by unfold u4 gz;rw[dI,aV];rfl
theorem Ec (h:i<ds.length):Gh ds i+4<=(gz ds).length/\u4 ds i<FW ds i:=by
 obtain⟨p,r,a,e⟩:=Da h;have c:=ai List.length a;have f:=fM (og ds i);simp only[aV,bx] at c;unfold Gh FW;omega
theorem Wy (ds:List (List UInt8))(i:Nat)(H:aA)(h:i<ds.length)(hn:ds.length<=127)(hl:(gz ds).length<=1000000000):
  aN prog 92 [.seq 1 ((gz ds).map bD),i64 (u4 ds i),i64 i] H λd H'=>d=.agg (Nw ds i)/\H=H':=by
 obtain⟨p,r,o,x⟩:=Da h;obtain⟨ht,hf⟩:=Ec h;have R:=fM (og ds i);have xu:FW ds i=u4 ds i+1+(put (og ds i).length).length:=rfl;have P:Gh ds i=FW ds i+(og ds i).length:=rfl;unfold Nw;generalize M:gz ds=bs at *;generalize u4 ds i=a at *;generalize FW ds i=f at *;generalize Gh ds i=t at *;generalize L:og ds i=D1 at *;have c:=lm bD bs;have N:(UInt8.ofNat (i+1)).toNat=i+1:=by rw[pN];omega
 have l:a<bs.length:=by omega
 have y:(bs.map bD)[a]?=some [.val (.int .u8 ((i+1:Nat):Int))]:=by
  rw[bg,o,mO (by omega),x,wU,lk];show some (bD (UInt8.ofNat (i+1)))=_;unfold bD;rw[N]
 have s:zV bs (a+1) D1.length f:=⟨⟨p++[UInt8.ofNat (i+1)],dW D1++r,by rw[o];simp,by rw[aV,x];rfl,by omega⟩,by omega⟩;have m:List.drop f (List.take (t+4) (bs.map bD))=(dW D1).map bD:=by
  have e:bs=(p++[UInt8.ofNat (i+1)]++put D1.length)++(dW D1++r):=by rw[o];simp
  have J:(p++[UInt8.ofNat (i+1)]++put D1.length).length=f:=by simp only[aV,eE];omega
  have K:List.drop f bs=dW D1++r:=by rw[e,<-J,List.drop_left]
  rw[List.drop_take,<-List.map_drop,K,<-iK,show t+4 - f=(dW D1).length by omega,List.take_left]
 have E:IntKind.i64.wrap ((i+1:Nat):Int)=((i+1:Nat):Int):=aP (by omega);have G:=wS a;have z:=aX a;have j:=aZ a;have g:(a:Int)<(bs.length:Int):=by omega
 have A:=nF (((i+1:Nat):Int)<=(i:Int));have B:=nF ((127:Int)<((i+1:Nat):Int));have V:IntKind.i64.wrap ((bs.length:Int) - (f:Int))=(bs.length:Int) - f:=aP (by omega);have Z:IntKind.i64.wrap ((bs.length:Int) - (f:Int) - 4)=(bs.length:Int) - f - 4:=aP (by omega);have w5:IntKind.u64.wrap ((bs.length:Int) - (f:Int) - 4)=(bs.length:Int) - f - 4:=iP (by omega);have S:=nF ((bs.length:Int) - (f:Int) - 4<0);have T:=nF ((bs.length:Int) - (f:Int) - 4<(D1.length:Int));have w6:IntKind.i64.wrap (D1.length:Int)=(D1.length:Int):=aP (by omega);have w7:IntKind.i64.wrap ((f:Int)+(D1.length:Int))=(t:Int):=by rw[aP (by omega)];omega
 have w8:IntKind.i64.wrap ((t:Int)+4)=((t+4:Nat):Int):=by rw[aP (by omega)];omega
 have v:=aX f;have w:((t+4:Nat):Int).toNat=t+4:=aX _;clear M L;refine dO func92 ntmps92 results92 λw0 g0 Q I=>?_;refine tq (bG y E G z j l g (bQ c A B)) ?_;intro U Y O C;intro r0 u;refine Y _ ?_;refine tq (bG y E G z j l g (bQ c A B)) ?_;intro U Y O C;refine(OC s _ (by omega)).qs (bG c V Z w5 S T w6 (cw w7 w8 m v w)) ?_;intro U Y O C;refine⟨by omega,by omega,by omega,(Vr D1 _ (by omega)).mono ?_⟩;rintro d _ ⟨rfl,rfl⟩;refine u0 I ?_;exact⟨H,aQ (aF _) u,rfl⟩
def YJ {c:Type}(J:List c->aA->Prop) (a:List c) (b:Nat) (y:cY) (H:aA):Prop:=∃Hc,H=Hc.aU b y/\(∀z,Hc b=some z->∃o,z=.obj o)/\J a Hc
theorem bj.hold {s:St}{a:Act}{w:World}(m:bj cx s a w){t:TypeId}{o:Nat}{els:List (List D)}(hb:s.H b=some (.row t o sz els)):∃ob,w.heap[b]?=some ob/\Ev s.H w (s.H.aU b (.obj ob)) w/\bj cx (s.cJ (s.H.aU b (.obj ob))) a w:=by
 obtain⟨cs,g,e,_⟩:=m.H b _ hb;have c:Ev s.H w (s.H.aU b (.obj (.cells cs t g))) w:=jI (by rw[hb];simp) rfl rfl rfl rfl (λ_ _=>rfl) λj l f h=>⟨j,f,h,rfl⟩;exact⟨_,e,c,m.go c (hQ m.H c (λ_ _=>rfl) e)⟩
theorem KY {S:Type}{cx:Cx}{o:Oper}{K:St->Prop}{s:St}{c:Call}{f:Operand}{l:Nat}{J Jx:List S->aA->Prop}{A:S->List D}{Pf:List S->Prop}(j:List S)(x:S){b:Nat}{t:TypeId}{ro sz:Nat}{els:List (List D)}
  (N:o.op=.call c) (a1:c.callee=.value f) (hf:s.ev f=yD l) (hd:qP cx.n o.dst) (hY:Xm cx.P l cx.H0 cx.w0 J Jx A Pf) (hC:yN cx.H0 J) (hb:cx.H0 b=none) (hx:Pf (j++[x])) (hJ:YJ J j b (.row t ro sz els) s.H) (ha:s.rh c.args=A x)
  (ht:∀H',YJ J (j++[x]) b (.row t ro sz els) H'->K ((s.cJ H').put o.dst (.val (.bool true)))) (hn:∀H',YJ Jx (j++[x]) b (.row t ro sz els) H'->K ((s.cJ H').put o.dst (.val (.bool false)))):WO cx o K s:=λa w m=>by
 refine⟨gw,?_⟩;rw[u7 (by simp [N])];obtain⟨Hc,hH,hz,hj⟩:=hJ;have R:s.H b=some (.row t ro sz els):=by rw[hH,aK]
 obtain⟨p,a7,a0,m0⟩:=m.hold R;have a2:s.H.aU b (.obj p)=Hc.aU b (.obj p):=by rw[hH,wV]
 have a6:J j (s.H.aU b (.obj p)):=by rw[a2];exact hC _ _ _ _ hb hz hj
 have B:=m.nz f;rw[hf] at B;simp only[yD,D.is] at B;have G:=m0.Db c.args;have a4:(s.cJ (s.H.aU b (.obj p))).rh c.args=A x:=ha;rw[a4] at G;obtain⟨fn,y,g,u,hy,hR⟩:=hY j x _ w _ hx a6 m0.H m0.ev G;have Z:(execOp a.eval o).run cx.P w=.ok (.round l fn y g u) w:=by
  simp only[execOp,N,resolve,a1,B,Deferred.ofValue,Sem.run_bind,Sem.run_pure,Result.andThen,invoke];have e:(c.args.map a.eval).toList.toArray=c.args.map a.eval:=Array.toArray_toList;rw[e] at hy;simpa using hy
 rw[Z,Oper.uponIn_round];refine⟨λa5=>(by cases a5),?_⟩;have a3:RoundIn (FR cx.ro) 8 cx.P l fn y g u w _:=hR;have L:∀(H':aA) (r:World),eF r H'->Ev (s.H.aU b (.obj p)) w H' r->H' b=some (.obj p)->bj cx (s.cJ (H'.aU b (.row t ro sz els))) a r:=λH' r M T v=>by
  have h4:r.heap[b]?=some p:=M b _ v;have I:Ev H' r (H'.aU b (.row t ro sz els)) r:=jI (by rw[v];simp) rfl rfl rfl rfl (λ_ _=>rfl) λnN t' De h=>⟨nN,De,h,rfl⟩;have E:Ev s.H w (H'.aU b (.row t ro sz els)) r:=(a0.trans T).trans I;exact m.go E (hQ M I (λ_ _=>rfl) (E.jb (h4.trans a7.symm) (m.H b _ R)))
 refine a3.mono λe r ⟨H',M,T,h5,v⟩=>?_;have V:H' b=some (.obj p):=h5 b p hb (aK _ _ _);rcases v with⟨rfl,v⟩|⟨rfl,v⟩
 ·exact⟨_,(L H' r M T V).put (fI hd) (by simp only[D.is]),ht _ ⟨H',rfl,λz h=>⟨p,by rw[V] at h;injection h with h;exact h.symm⟩,v⟩⟩
 ·exact⟨_,(L H' r M T V).put (fI hd) (by simp only[D.is]),hn _ ⟨H',rfl,λz h=>⟨p,by rw[V] at h;injection h with h;exact h.symm⟩,v⟩⟩
def YH {g:Type}(J e:List g->aA->Prop) (f:List g) (H0 H:aA):Prop:=
 (J f H\/∃a,e a H)\/∃b t o sz c,H0 b=none/\(YJ J f b (.row t o sz c) H\/∃a,YJ e a b (.row t o sz c) H)
theorem OS {α:Type}{P:Program}{f:FuncId}{fn:Func}{c:Code}{K:List D}{I:α->List D}{y:List α}{ok:aA->Prop}(N:Nat)(hf:P.funcs[f]?=some fn)(mh:(fn.name== "runtime.NumGoroutine")=false)(hb:fn.body=some c)(hN:fn.ntmps=N)(xv:fn.results= #[])(hl:K.length+1<=N)
  (h:∀(l:Nat) (J r:List α->aA->Prop) (H:aA) (w0:World) (g0:wW w0 H) (Q:Exit->St->Prop),ok H->J [] H->yN H J->yN H r->YC P l H w0 J r I y->(∀e s,e=.normal\/e=.ret->s.df=[]->YH J r y H s.H->Q e s)->W ⟨P,none,N,H,w0,g0⟩ c Q (St.init (yD l::K) H)):BY P f K I y ok:=And.intro (jH hf mh hb) λl J r H w Z dC hH hG hJ hC L _ hY js=>by
 have a2:Calls P f Z.toArray w λe p=>∃v d g,e=.returned v/\D.is p g.others d v/\eF p g/\Ev H w g p/\(J y g\/∃a,r a g):=by
  refine mf (ro:=none) (n:=9) (callsIn_of_wp hf hb trivial ?_ rfl);have cd:=fo js;obtain⟨ds,R⟩:∃ds,ds=yD l::K:=⟨_,rfl⟩;have a5:ds.length<=N:=by rw[R];exact hl
  have m:bj ⟨P,none,N,H,w,hG⟩ (St.init (yD l::K) H) {tmps:=Z.toArray++Array.replicate (fn.ntmps - Z.toArray.size) undef,defers:=[]} w:=by
   rw[<-R] at cd js ⊢;refine⟨by simp;omega,rfl,λt=>?_,hH,dr _ _⟩;simp only[St.init];rcases fv t ds.length with S|wY
   ·obtain⟨v,x,z⟩:=iO js t ds[t] (by simp [S])
    have e1:ds.getD t (.val undef)=ds[t]:=by simp [List.getD,S]
    have e2:(Z.toArray++Array.replicate (fn.ntmps - Z.toArray.size) undef).getD t undef=v:=by
     rw[nK,wF (by simp;omega)];simp [x]
    rw[e1,e2];exact z
   ·have e1:ds.getD t (.val undef)=.val undef:=by simp [List.getD,wY]
    rw[e1];simp only[D.is];rw[nK,wD (by simp;omega),wG];split <;> rfl
  refine wpIn_mono (h l J r H w hG (λe s=>(e=.normal\/e=.ret)/\s.df=[]/\YH J r y H s.H) dC hJ hC L hY (λe s he j hr=>⟨he,j,hr⟩) _ _ m) λe a' p ⟨E,m',he,j,q⟩=>?_;have fin:∃G:St,G.df=[]/\bj ⟨P,none,N,H,w,hG⟩ G a' p/\(J y G.H\/∃a,r a G.H):=by
   rcases q with q|⟨b,t,o,sz,a4,M,q⟩
   ·exact⟨E,j,m',q⟩
   ·rcases q with⟨Hc,u,hz,hj⟩|⟨a,Hc,u,hz,hj⟩
    ·obtain⟨V,_,_,B⟩:=m'.hold (b:=b) (by rw[u,aK])
     refine⟨E.cJ (E.H.aU b (.obj V)),j,B,.inl ?_⟩;show J y (E.H.aU b (.obj V));rw[u,wV];exact hC _ _ _ _ M hz hj
    ·obtain⟨V,_,_,B⟩:=m'.hold (b:=b) (by rw[u,aK])
     refine⟨E.cJ (E.H.aU b (.obj V)),j,B,.inr ⟨a,?_⟩⟩;show r a (E.H.aU b (.obj V));rw[u,wV];exact L _ _ _ _ M hz hj
  obtain⟨G,a1,B,a3⟩:=fin;have q2:LK ⟨P,none,N,H,w,hG⟩ fn (λ_ g=>J y g\/∃a,r a g) .ret G:=sG (.inr rfl) a1 (by rw[xv];exact⟨G.H,aF _,a3⟩);have T:a'.defers=[]/\∃v,(results fn a'.tmps).run P p=.ok v p/\∃v' d g,Ending.returned v=.returned v'/\D.is p g.others d v'/\eF p g/\Ev H w g p/\(J y g\/∃a,r a g):=by
   obtain⟨j,a0⟩:=q2;obtain⟨v,d,g,x,z,A,h4⟩:=a0 a' p B;have m3:=B.less A;exact⟨B.df.trans j,v,x,v,d,g,rfl,z,m3.H,m3.ev,h4⟩
  rcases he with rfl|rfl
  ·obtain⟨x,v,z,A⟩:=T
   exact⟨x,v,z,A⟩
  ·obtain⟨x,v,z,A⟩:=T
   exact⟨x,v,z,A⟩
 refine a2.mono ?_;rintro e p ⟨v,d,g,x,_,A,h4,h5⟩;exact⟨v,g,x,A,h4,h5.imp (λh=>⟨_,rfl,h⟩) id⟩
def aA.qb (H:aA):aA:=λb=>match H b with
 |some (.obj _)=>Option.none
 |x=>x
theorem jK (H:aA):∀b o,H.qb b≠some (.obj o):=λb o h=>by
 unfold aA.qb at h;split at h
 ·cases h
 ·rename_i a;exact a o h
theorem uV (H:aA):H.qb.le H:=λb x h=>by
 unfold aA.qb at h;split at h
 ·cases h
 ·exact h
theorem ie {x:cY}(h:H b=some x)(hx:∀o,x≠ .obj o):H.qb b=some x:=by
 unfold aA.qb;split
 ·rename_i o e
  rw[h] at e;injection e with e
  exact absurd e (hx o)
 ·exact h
theorem jL (h:H b=Option.none):H.qb b=Option.none:=by unfold aA.qb;rw[h]
theorem lO {H1:aA}(h1:H.qb.le Hc)(h2:H.le H1)(h3:gE H1 Hc):H.le Hc:=λb x a=>by
 cases x with
 |obj o=>exact h3 b o (h2 b _ a)
 |row t o sz c=>exact h1 b _ (ie a (by simp))
 |map m=>exact h1 b _ (ie a (by simp))
 |hid=>exact h1 b _ (ie a (by simp))
theorem Di {e:TypeId}{els:List (List D)}{d:D}{ob:Option Nat}(h:Gl H.qb e sz els d Hc ob)(g:H.le Hc):Gl H e sz els d Hc ob:=by
 rcases h with h|⟨c,o,j,l,a,f⟩
 ·exact .inl h
 ·refine .inr ⟨c,o,j,l,?_,f⟩
  cases hx:H c with
  |none=>rfl
  |some x=>
   cases x with
   |obj o=>have:=g _ _ hx;rw[f] at this;cases this
   |row t o sz els=>rw[ie hx (by simp)] at a;cases a
   |map m=>rw[ie hx (by simp)] at a;cases a
   |hid=>rw[ie hx (by simp)] at a;cases a
theorem gO {H':aA}(a:∀b o,H0 b≠some (.obj o))(h:H0.le H)(hr:Am H H'):H0.le H':=λb x c=>hr b x (h b x c) (λo e=>a b o (by rw[c,e]))
theorem Sr (ds:List (List UInt8)):(gz ds).take 4=[77,73,82,84]/\(gz ds).length=5+(jq 0 ds).length/\(gz ds)[4]?=some 1:=by
 unfold gz Sq;exact⟨rfl,by rw[aV];rfl,rfl⟩
theorem K9 (l:List UInt8)(n:Nat):(dg l).extract 0 n=dg (l.take n):=by
 apply ByteArray.ext;rw[zE];apply gm;simp [dg]
theorem ZK (l:List UInt8)(H:aA)(hl:l.length<=1000000000)(h:l.take 4=[77,73,82,84]):aN prog 91 [.val (.string (dg l)),.val (.string (dg [77,73,82,84]))] H λd H'=>d=.val (.bool true)/\H=H':=by
 have o:=gx l;have r:4<=l.length:=by
  have:=ai List.length h;rw[bX] at this;simp at this;omega
 have e:(dg [77,73,82,84]).size=4:=rfl;have q:=nT ((4:Int)<=(l.length:Int));have m:∀a,aN prog 163 [.val (.string (dg l)),.val (.string (dg [77,73,82,84]))] a λd H'=>d=.val (.bool true)/\a=H':=λa=>by
  have f:=K9 l 4;rw[h] at f;have g:decide ((dg [77,73,82,84])=dg [77,73,82,84])=true:=ah rfl;refine dO func163 ntmps163 results163 λp j Q c=>?_;refine ur c (cw o e q f g) trivial ?_;exact⟨_,aF _,rfl⟩
 refine dO func91 ntmps91 results91 λp j Q c=>?_;refine t0 ?_;intro U Y O C;refine(m _).q ?_;refine u0 c ?_;exact⟨_,aF _,rfl⟩
theorem LX (b:List UInt8)(H:aA):aN prog 42 [.seq 1 (b.map bD)] H λd H'=>d=.fn 90 [.rp [.seq 1 (b.map bD)]]/\H=H':=by
 refine dO func42 ntmps42 results42 λg f Q c=>?_;refine t0 ?_;intro U Y O C;intro e a;refine Y _ ?_;refine cm 1 a ?_;refine u0 c ?_;exact⟨_,aF _,rfl⟩
theorem XO (h:i<n):List.range i++[i]<+:List.range n:=by
 rw[<-rG,show List.range (i+1)=(List.range n).take (i+1) by rw[List.take_range,mZ (by omega)]];exact List.take_prefix _ _
theorem P6 {a:List Nat}{x:Nat}(h:(a++[x])<+:List.range n):a=List.range a.length/\x=a.length/\a.length<n:=by
 have c:=h.length_le;rw[aV,tL,eE] at c;have e:=List.prefix_iff_eq_take.1 h;rw[List.take_range,mZ (by rw[aV];exact c),aV,eE,rG] at e;obtain⟨f,e2⟩:=List.append_inj' e rfl;exact⟨f,by simpa using e2,by omega⟩
theorem HO (ds:List (List UInt8))(hn:ds.length<=127)(hl:(gz ds).length<=1000000000):BY prog 90 [.rp [.seq 1 ((gz ds).map bD)]] (λi=>[.agg (Nw ds i)]) (List.range ds.length) λ_=>True:=by
 obtain⟨M,m2,N⟩:=Sr ds;have v:u4 ds 0=5:=by simp [u4,jq]
 have w:=PX ds;have x:=λi=>λh:i<ds.length=>Ec h;have g:=λi=>λh:i<ds.length=>Ln h;have u:=λi H=>λh:i<ds.length=>Wy ds i H h hn hl;generalize G:gz ds=bs at *;have f:=lm bD bs;have P:=nF ((bs.length:Int)=4);have L:(bs.map bD)[4]?=some [.val (.int .u8 1)]:=by rw[bg,N];rfl
 have R:(4:Int)<(bs.length:Int):=by omega
 have S:4<bs.length:=by omega
 have r:=ru bs;clear G;refine yg _ func90 rfl rfl ntmps90 results90 (by simp) λl J V H w0 g0 Q dC I K z=>?_;refine tq r ?_;intro U Y O C;refine(ZK bs _ hl M).qs (cw f P L R S) ?_;intro U Y O C;refine aO ds.length (λi s=>s.df=[]/\s.fr 0=yD l/\s.fr 1=.rp [.seq 1 (bs.map bD)]/\s.fr 3=i64 i/\s.fr 4=i64 (u4 ds i)/\J (List.range i) s.H) ⟨rfl,rfl,rfl,rfl,by rw[v];rfl,I⟩ ?_;rintro i s hi ⟨e,j,m,E,o,A⟩;by_cases a:i<ds.length
 case neg=>
  have t:i=ds.length:=by omega
  subst t;rw[w] at o;have y:=nF ((bs.length:Int)<(bs.length:Int));refine tq (cA m o f y) ?_;intro U Y O C;exact z _ _ (.inl rfl) e (.inl A)
 obtain⟨ht,hf⟩:=x i a;have g:=g i a;have y:((u4 ds i:Int)<(bs.length:Int))=True:=aG (by have:FW ds i<=Gh ds i:=wP _ _;omega);have T:IntKind.i64.wrap ((Gh ds i:Int)+4)=(u4 ds (i+1):Int):=by rw[aP (by omega),g];omega
 refine tq (cw m E o f y) ?_;intro U Y O C;refine(u i _ a).q ?_;unfold Nw;refine t0 ?_;intro U Y O C;intro Z p;refine Y _ ?_;refine cm 5 p ?_;(iterate 2 (refine tk j ?_;intro U Y O C));(have fs:=j;refine x9 (2) (by kernel_rfl) ?_;refine Rw ?_;(try clear fs));refine lA rfl (oI (List.range i) i rfl rfl rfl (by simp [qP]) K (XO a) A rfl (λB c=>?_) λB c=>?_)
 ·rw[<-rG] at c
  refine tq j ?_;intro U Y O C;refine dE (λ_ _ _ _=>False) λU Y=>?_;refine dst T ?_;intro U Y O C;exact⟨a,e,j,m,rfl,rfl,c⟩
 ·refine tq j ?_;intro U Y O C
  exact z _ _ (.inr rfl) e (.inr ⟨_,c⟩)
def RdT (H0:aA) (ds:List (List UInt8)) (e f g:Nat) (a:List Nat) (H:aA):Prop:=
 a.length<=ds.length/\H0.qb.le H/\H e=some (.row 51 0 1 [[.val (.slice none 0 0)]])/\H f=some (.row 48 0 1 [[i64 0]])/\∃x c,H g=some (.row 51 0 1 [[x]])/\Gl H0.qb 58 2 ((tu ds).take a.length) x H c/\c≠some e/\c≠some f/\c≠some g
theorem IG (ds:List (List UInt8))(H:aA)(hn:ds.length<=127)(hl:(gz ds).length<=1000000000):aN prog 11 [.seq 1 ((gz ds).map bD)] H λd H'=>d=.eO [.seq 2 (tu ds),i64 0]/\H=H':=by
 refine aq (K:=λd=>d=.eO [.seq 2 (tu ds),i64 0]) ?_;have it:=HO ds hn hl;have a6:=λi=>λh:i<ds.length=>Ec h;have ye:=GR ds;have b6:=λi=>λh:i<ds.length=>@GQ ds i h;have P:∀i,i<ds.length->List.drop (FW ds i) (List.take (Gh ds i) ((gz ds).map bD))=(og ds i).map bD:=λi h=>by
  obtain⟨p,r,h1,R⟩:=Da h;have e:gz ds=(p++[UInt8.ofNat (i+1)]++put (og ds i).length)++(og ds i++(MV 4 (Kq 0#32 (og ds i))++r)):=by rw[h1];simp [dW]
  have e2:(p++[UInt8.ofNat (i+1)]++put (og ds i).length).length=FW ds i:=by unfold FW;simp only[aV,eE];omega
  have e3:List.drop (FW ds i) (gz ds)=og ds i++(MV 4 (Kq 0#32 (og ds i))++r):=by rw[e,<-e2,List.drop_left]
  rw[List.drop_take,<-List.map_drop,e3,<-iK,show Gh ds i - FW ds i=(og ds i).length by unfold Gh;omega,List.take_left]
 have a3:∀i,i<ds.length->(og ds i).length<=(gz ds).length:=λi h=>by have:=(a6 i h).1;unfold Gh at this;omega
 have aw:=λi=>λh:i<ds.length=>@zv ds i h;generalize gz ds=bs at *;have b0:=lm bD bs;refine lH _ _ func11 rfl rfl ntmps11 results11 (by simp) λw0 g0 Q aB=>?_;refine t0 ?_;intro U Y O C;intro b1 ar b2 B b3 g;refine Y _ ?_;obtain⟨a7,B⟩:=bF.1 B;obtain⟨V,g⟩:=bF.1 g;obtain⟨a8,g⟩:=bF.1 g;refine dZ 1 rfl (b:=b1) (by simp only[iN,uP];rw[aJ (Ne.symm a8),aJ (Ne.symm a7),aK]) rfl ?_;simp only[St.ku,iN,fC,uP,oR,kC (Ne.symm a8),kC (Ne.symm a7),kX,iy ar,List.drop];refine t0 ?_;intro U Y O C;intro b4 j;refine Y _ ?_;obtain⟨aa,j⟩:=bF.1 j;obtain⟨a9,j⟩:=bF.1 j;obtain⟨H2,f⟩:=oX (((H.aU b2 (.row 51 0 1 [[.val (.slice none 0 0)]])).aU b3 (.row 48 0 1 [[i64 0]])).aU b4 (.row 51 0 1 [[.val (.slice none 0 0)]]));have N:H.le H2:=by rw[f];exact aQ (aQ (aQ (aF _) B) g) j
 have e2:H2 b2=some (.row 51 0 1 [[.val (.slice none 0 0)]]):=by rw[f,aJ (Ne.symm a9),aJ (Ne.symm V),aK]
 have e3:H2 b3=some (.row 48 0 1 [[i64 0]]):=by rw[f,aJ (Ne.symm aa),aK]
 have e4:H2 b4=some (.row 51 0 1 [[.val (.slice none 0 0)]]):=by rw[f,aK]
 simp only[i64] at f;rw[<-f];clear f;refine t0 ?_;intro U Y O C;refine(LX bs _).qt ?_;intro U Y O C;refine iz (λs=>s.df=[]/\s.fr 1=.rp [.seq 1 (bs.map bD)]/\s.fr 2=.ep b2 0 1 0 0/\s.fr 3=.ep b3 0 1 0 0/\s.fr 4=.ep b4 0 1 0 0/\s.fr 7=.fn 90 [.rp [.seq 1 (bs.map bD)]]/\s.H=H2) ⟨rfl,rfl,rfl,rfl,rfl,rfl,rfl⟩ ?_;rintro s ⟨a2,f1,f2,f3,f4,f7,T⟩;refine kZ rfl it f7 (λ_ _=>trivial) (by simp) (λ_=>rfl) (RdT H ds b2 b3 b4) (λ_ _ _=>False) ?_ ?_ ?_ ?_ ?_ ?_
 ·rintro bl H1 H3 hr ⟨h1,h0,I,J,x,ob,w,h6,h7⟩
  refine⟨h1,gO (jK H) h0 hr,hr _ _ I (by simp),hr _ _ J (by simp),x,ob,hr _ _ w (by simp),?_,h7⟩;rcases h6 with h6|⟨c,o,g1,g2,g3,g4⟩
  ·exact .inl h6
  ·exact .inr ⟨c,o,g1,g2,g3,hr _ _ g4 (by simp)⟩
 ·exact λ_ _ _ _ _ h=>h
 ·rw[T]
  exact⟨jY _,iL (uV H) N,e2,e3,_,none,e4,eB _ _ _ _,by simp,by simp,by simp⟩
 ·rintro l w1 v x Hc o g1 ag ⟨bk,h0,R,I,xs,ob,J,hg,Z,a0,ab⟩ a5 E
  obtain⟨ba,rfl,m⟩:=P6 ag;clear ba;rw[Ls];have b7:(tu ds).take (v.length+1)=(tu ds).take v.length++[[i64 (v.length+1:Nat),.seq 1 ((og ds v.length).map bD)]]:=by
   have w:=b6 _ m;rw[<-aw _ m] at w;rw[List.take_add_one,w];rfl
  have P:=P _ m;have a3:=a3 _ m;obtain⟨ht,hf⟩:=a6 _ m;have bf:FW ds v.length<=Gh ds v.length:=wP _ _;have bi:((tu ds).take v.length).length<=127:=by rw[bX];omega
  have a1:(v++[v.length]).length=v.length+1:=by rw[aV];rfl
  unfold Nw;generalize hk:v.length=k at *;generalize FW ds k=am at *;generalize Gh ds k=bc at *;generalize og ds k=D1 at *;have b8:=aX am;have b9:=aX bc;refine tq (cw cR cO cE au a2) ?_;intro U Y O C;intro b5 S;refine Y _ ?_;simp only[cF];refine⟨rfl,gE.new (jU _) S,λw2 y g2=>?_⟩;have n5:∀c x,Hc c=some x->c≠b5:=λc x h e=>by rw[e,S] at h;cases h
  have ne:∀c t e,Hc c=some (.row t 0 1 e)->c≠l:=λc t e h e2=>by rw[e2,E] at h;cases h
  have m2:=ne _ _ _ R;have m3:=ne _ _ _ I;have m4:=ne _ _ _ J;have l5:=n5 _ _ E;refine dZ 5 rfl (b:=b5) (by simp only[iN,cO,fS];rw[aJ (Ne.symm l5),aK]) rfl ?_;simp only[St.ku,iN,cO,fS,fC,au,eL,kC (Ne.symm l5),kX,iy S,List.drop];have al:=λ(x:cY) (hx:∀o,x≠ .obj o)=>oC (H:=Hc) (b:=b5) (l:=l) (y:=y) hx;have r2:=(aJ (x:=.obj y) m2).trans R;have r3:=(aJ (x:=.obj y) m3).trans I;have r4:=(aJ (x:=.obj y) m4).trans J;have ak:=gO (jK H) h0 (kA (x:=.obj y) E);have a:=hg.obj (x:=.obj y) E;refine tq (cA cR cO cE au) ?_;intro U Y O C;refine wE (λt=>decide (t=some 16\/t=some 17\/t=some 19\/t=some 21\/t=some 22)) (λ_=>false) (λ_ _ d A=>A=.none/\d=.seq 1 (D1.map bD)) (λ_ _ _ _ _=>False) λU Y=>?_;have fs:=And.intro cR (And.intro cO (And.intro cE (And.intro au (And.intro f1 (And.intro f4 (And.intro r4 (And.intro P (And.intro b0 (And.intro b8 b9)))))))));refine uj ?_;refine nx ?_;(try clear fs);refine⟨by omega,by omega,by omega,an λad be=>sB _ ad (by rw[aS];omega),?_⟩;refine ax (e:=58) Xb rfl Xb rfl aBF rfl (by decide) ak a (new:=[[i64 (k+1:Nat),.seq 1 (D1.map bD)]]) (by exact⟨rfl,rfl⟩) (by show(_+1) * 32<=_;omega) λd' H6 bb a4 ae G=>?_;have q2:=G _ _ r2 Z;have q3:=G _ _ r3 a0;have q4:=G _ _ r4 ab;have u:=a4.cells;simp only[D.cells] at u;have ac:=q4.1;refine eV (av ac u) ?_;refine nx ?_;simp only[fK,cp];refine⟨rfl,(qD (al _ (by simp)) a G).row ac (by simp),by rw[a1];exact m,aQ ae (jL j),(aJ (Ne.symm a9)).trans q2.1,(aJ (Ne.symm aa)).trans q3.1,d',bb,aK _ _ _,?_,q2.2,q3.2,q4.2⟩;rw[a1,b7];exact a4.cM λc h=>aJ λe=>q4.2 (by rw[h,e])
 ·rintro Hc M ⟨h1,h0,R,I,xs,ob,J,hg,Z,a0,ab⟩ a5 hD ap
  rw[mK,cp,cF,a2];have g2:=lO h0 (H1:=s.H) (by rw[T];exact N) a5;have a:Gl H 58 2 (tu ds) xs Hc ob:=by
   rw[tL,bK (by omega)] at hg;rcases hg with hg|⟨c,o,k1,k2,k3,k4⟩
   ·exact .inl hg
   ·refine .inr ⟨c,o,k1,k2,?_,k4⟩
    cases e:H c with
    |none=>rfl
    |some x=>
     have w:=g2 _ _ e
     rw[k4] at w
     injection w with w
     subst w
     have h6:H.qb c=_:=ie e (by simp)
     rw[h6] at k3;cases k3
  have m2:b2≠M:=λe=>by rw[e,hD] at R;cases R
  have m3:b3≠M:=λe=>by rw[e,hD] at I;cases I
  have m4:b4≠M:=λe=>by rw[e,hD] at J;cases J
  have u:=a.cells;simp only[D.cells] at u;have r3:∀x,(aA.aU Hc b2 x) b3=some (.row 48 0 1 [[i64 0]]):=λx=>(aJ V).trans I;refine tq (ej f2 f3 f4 R J u r3) ?_;intro U Y O C;refine aB _ _ (.inr rfl) ?_ ?_
  ·refine eG f2 ?_
   refine Ql ?_;rw[aJ (Ne.symm m3),aJ (Ne.symm m2)];exact hD
  ·refine eG f2 ?_
   rw[sP];simp (maxSteps:=4000000) only[vX,vB,vT,vZ,ij,fh,Fp,yk,AX,gV,fE,fj,↓iR,yb,cU,DJ,ze,By,oi,od,pn,po,ki,j8,kh,ic,D.nilPtr,D.iM,D.iF,fH,Bj,CE,wX,gy,jw,fieldsOf,gU,B6,B7,B8,B9,sL,BT,D.cells,jx,DE,DB,pv,eK,eH,B3,BR,jd,EC,rS,Be,gP,TD.gX,TD.agg,Eo,rU,oe,FI,nZ,pY,pX,Ba,B5,mF,pZ,dR,eT,Value.oneCell',iX,iV,gp,reduceCtorEq,kY,iZ,dN,dY,↓reduceIte,Nat.reduceEqDiff,Int.reduceLE,Int.reduceLT,Int.reduceNeg,Int.reduceToNat,Nat.reduceAdd,Nat.reduceMul,Nat.reduceLeDiff,Nat.reduceMod,Nat.reduceSub,Int.reduceEq,Int.reduceNe,Int.reduceAdd,Int.reduceSub,Int.reduceMul,iW,cR,cO,cE,au,cF,fW,cp,eU,fK,fL,fQ,fR,fP,i64,f2,f3,i64,aJ m2,aJ m3,aJ (Ne.symm V)];have hk:∀c,ob=some c->c≠M:=λc h e=>by
    rcases a with a|⟨c',o',k1,_,_,k4⟩
    ·rw[a.1] at h;cases h
    ·rw[k1] at h;injection h with h;rw[h,e,hD] at k4;cases k4
   have L:=λx y z=>aQ (x:=z) (aQ (x:=y) (aQ (x:=x) g2 B) g) (iY N (by rw[<-T];exact ap));exact⟨_,aF _,L _ _ _,_,lI (HP (da (L _ _ _) (a.cM λc h=>by rw[aJ (hk c h),aJ (λe=>a0 (by rw[h,e])),aJ (λe=>Z (by rw[h,e]))])) (aL (L _ _ _))),rfl⟩
 ·exact λ_ _ _ _ _ _ h=>h.elim
end Go.Proofs.YtffgfafbffdgaaaGreatDoor
