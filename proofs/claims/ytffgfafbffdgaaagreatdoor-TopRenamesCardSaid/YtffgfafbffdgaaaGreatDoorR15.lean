/- Lemmas and contracts of functions, several texts in one. -/
import Derived.Test.YtffgfafbffdgaaaGreatDoorR12
import Derived.Test.YtffgfafbffdgaaaGreatDoorR14
set_option maxRecDepth 100000
set_option maxHeartbeats 4000000
set_option linter.all false
namespace Go.Proofs.YtffgfafbffdgaaaGreatDoor
open Go.RowKit
variable {aY:List Oper}{i k b sz n:Nat}{cx:Cx}{H0 H Hc:aA}{ds:List (List UInt8)}
def Ir (aY:List Oper) (a:List Nat) (k:Nat):Bool:=decide (k<aY.length)&&((List.range k).all λi=>(a.getD k 0).testBit i)&&(aY.zipIdx.all λ(o,j)=>decide (j<=k)||(o.after.toList.any λe=>Region.binds .any e&&e.on==j - 1))
theorem oD {a:Array Bool}:i∈Region.ready .any aY.toArray a↔i<aY.length/\a.getD i true=false/\∀o,aY[i]?=some o->∀e∈o.after.toList,Region.binds .any e=true->a.getD e.on false=true:=by
 unfold Region.ready;rw[fN];have j:i∈List.range aY.toArray.size↔i<aY.length:=by simp
 rw[j];refine and_congr_right λl=>?_;obtain⟨o,ho⟩:∃o,aY[i]?=some o:=⟨aY[i],by simp [l]⟩;have g:aY.toArray[i]?=some o:=by simpa using ho
 rw[g,ho];simp only[cX,mY,gJ,rF];refine and_congr_right λ_=>?_;rw[<-wQ,dK];constructor
 ·intro h m c e f d
  injection c with c
  subst c;have:=h e f;rw[d] at this;simpa using this
 ·intro h e f
  cases d:Region.binds .any e with
  |false=>simp
  |true=>simpa using h o rfl e f d
theorem Kg {F:Fence}{n:Nat}{P:Program}{Q:Exit->Act->World->Prop}(W:ow aY=true)(y:∀(j:Nat) (o:Oper),aY[j]?=some o->k<j->∃e∈o.after.toList,Region.binds .any e=true/\e.on=j - 1):
  ∀(f j:Nat) (c:Array Bool) (a:Act) (w:World),k<=j->aY.length<=j+f->c.size=aY.length->(∀i,i<aY.length->c.getD i true=decide (i<j))->wpListIn F n P aY.toArray Q (aY.drop j) a w->wpAnyIn F n P .any aY.toArray Q f c a w:=by
 have done:∀(j:Nat) (c:Array Bool),aY.length<=j->(∀i,i<aY.length->c.getD i true=decide (i<j))->∀i,i∉Region.ready .any aY.toArray c:=λj c t d i p=>by
  obtain⟨l,r,_⟩:=oD.1 p;rw[d i l,ah (by omega)] at r;cases r
 intro f
 induction f with
 |zero=>
  intro j c a w M N ir d h
  rw[pK (by omega)] at h
  exact⟨Ek.2 (done j c (by omega) d),h⟩
 |succ f V=>
  intro j c a w M N ir d h
  by_cases t:j<aY.length
  ·have ho:aY[j]?=some aY[j]:=by simp [t]
   have s:∀i,i<aY.length->c.getD i false=c.getD i true:=λi p=>by
    have:i<c.size:=by omega
    simp [Array.getD,this]
   have u:j∈Region.ready .any aY.toArray c:=oD.2 ⟨t,by rw[d j t];simp,λo g e z x=>by
    have l:=jG W g e z x;rw[s _ (by omega),d _ (by omega),ah l]⟩
   refine⟨λT=>(by rw[T] at u;exact absurd u List.not_mem_nil),λi p=>?_⟩
   obtain⟨l,r,J⟩:=oD.1 p
   rw[d i l] at r
   have A:i=j:=by
    refine eC λS=>?_;have L:j<i:=by have:=of_decide_eq_false r;omega
    obtain⟨o,g⟩:∃o,aY[i]?=some o:=⟨aY[i],by simp [l]⟩;obtain⟨e,z,x,D⟩:=y i o g (by omega);have G:=J o g e z x;rw[D,s _ (by omega),d _ (by omega)] at G;have:=rD G;omega
   subst A
   rw[cL t] at h
   have q:∀a w,wpListIn F n P aY.toArray Q (aY.drop (i+1)) a w->wpAnyIn F n P .any aY.toArray Q f (c.setIfInBounds i true) a w:=λa w K=>V (i+1) _ a w (by omega) (by omega) (by simpa using ir) (λm R=>by
    have v:(c.setIfInBounds i true).getD m true=if m=i then true else c.getD m true:=qB _ _ _ _ _ (by omega)
    rw[v];by_cases e:m=i
    ·rw[aD e,ah (by omega)]
    ·rw[aC e,d m R]
     by_cases I:m<i
     ·rw[ah I,ah (by omega)]
     ·rw[af I,af (by omega)]) K
   unfold wpOpIn
   have B:aY.toArray[i]?=some aY[i]:=by simpa using ho
   rw[B]
   unfold wpListIn at h
   simp only
   split at h
   ·rename_i E
    rw[aD E]
    exact Oper.wpIn_mono q h
   ·rename_i E
    rw[aC E]
    exact⟨h.1,q _ _ h.2⟩
  ·rw[pK (by omega)] at h
   exact⟨λ_=>h,λi p=>absurd p (done j c (by omega) d i)⟩
theorem LC {G:Option Tmp->List D->D->aA->Prop}{H:aA}{a2:List Nat}{Q:Exit->St->Prop}(dC:dQ cx.n aY=true)(N:ow aY=true)(xE:BD aY a2=true)(K:Ir aY a2 k=true):
  ∀(v:Nat) (R:List Nat) (c:Array Bool) (s:St) (a:Act) (w:World),R.length+(aY.length - k)<=v->R.Pairwise (·<·)->(∀i∈R,i<k)->c.size=aY.length->(∀i,i<aY.length->(c.getD i true=false↔i∈R\/k<=i))->
  (∀(j:Nat) (o:Oper),aY[j]?=some o->j<k->j∉R->∀e∈o.after.toList,Region.binds .any e=true->e.on∉R)->
  H.le s.H->bj cx s a w->yx cx.P G H aY.toArray (WL cx aY.toArray (aY.drop k) Q) (R.filterMap (aY[·]?)) s->wpAnyIn (FR cx.ro) 9 cx.P .any aY.toArray (QQ cx Q) v c a w:=by
 unfold Ir at K;rw[cX,cX,dF,dK,dK] at K;obtain⟨⟨ar,ac⟩,ab⟩:=K;have a0:∀(j:Nat) (o:Oper),aY[j]?=some o->k<j->∃e∈o.after.toList,Region.binds .any e=true/\e.on=j - 1:=λj o ho u=>by
  have:=ab (o,j) (ui.2 (by simpa using ho));simp only[rJ,dF,tO,cX,rN] at this;rcases this with h|⟨e,h1,h2,S⟩
  ·omega
  ·exact⟨e,h1,h2,S⟩
 intro v
 induction v with
 |zero=>
  intro R c s a w cd
  omega
 |succ v ih=>
  intro R c s a w cd hp z ir f L aM m h
  rcases R with _|⟨r,R0⟩
  ·refine Kg N a0 (v+1) k c a w (bh _) (by simp at cd;omega) ir (λi B=>?_) (h a w m)
   by_cases wZ:i<k
   ·rw[ah wZ]
    cases hl:c.getD i true with
    |true=>rfl
    |false=>rcases(f i B).1 hl with h1|h1;cases h1;omega
   ·rw[af wZ]
    exact(f i B).2 (.inr (by omega))
  ·obtain⟨R,hR⟩:∃R,R=r::R0:=⟨_,rfl⟩
   have y:r∈R:=by rw[hR];simp
   rw[<-hR] at cd hp z f L h
   have F:∀i,i<aY.length->c.getD i false=c.getD i true:=λi B=>by
    have:i<c.size:=by omega
    simp [Array.getD,this]
   have aa:∀i,i∈Region.ready .any aY.toArray c->i<k:=λi B=>by
    obtain⟨h1,h2,S⟩:=oD.1 B;refine eC λwZ=>?_;obtain⟨o,ho⟩:∃o,aY[i]?=some o:=⟨aY[i],by simp [h1]⟩;by_cases e:i=k
    ·subst e
     have a6:∀(j:Nat) (o:Oper),aY[j]?=some o->j∉R++List.range' i (aY.length - i)->∀e∈o.after.toList,Region.binds .any e=true->e.on∉R++List.range' i (aY.length - i):=λj o2 g u e q l=>by
      have ap:j<aY.length:=(gI.1 g).1;rw[bB,List.mem_range'_1] at u ⊢;have h4:=jG N g e q l;rintro(h5|h5)
      ·exact L j o2 g (by omega) (λh=>u (.inl h)) e q l h5
      ·omega
     have h5:=VA xE N a6 i o ho (λe q l x=>by
      have I:=S o ho e q l;have h7:=jG N ho e q l;rw[F _ (by omega)] at I;have h8:=(f e.on (by omega)).2 (by
       rcases bB.1 x with h|h
       ·exact .inl h
       ·rw[List.mem_range'_1] at h;exact .inr h.1)
      rw[I] at h8;cases h8) r (z r y) (ac r (ib.2 (z r y)))
     exact h5 (o8 _ y)
    ·obtain⟨ed,q,l,ak⟩:=a0 i o ho (by omega)
     have I:=S o ho ed q l;rw[ak,F _ (by omega)] at I;have h8:=(f (i - 1) (by omega)).2 (.inr (by omega));rw[I] at h8;cases h8
   have Z:∀i∈R,r<=i:=λi B=>by
    rw[hR] at B hp;rcases bV.1 B with h|h
    ·omega
    ·have:=(oa.1 hp).1 i h;omega
   have am:=z r y
   have J:r∈Region.ready .any aY.toArray c:=oD.2 ⟨by omega,(f r (by omega)).2 (.inl y),λo ho e q l=>by
    have h1:=jG N ho e q l;rw[F _ (by omega)];cases hl:c.getD e.on true with
    |true=>rfl
    |false=>
     rcases(f e.on (by omega)).1 hl with h2|h2
     ·have:=Z _ h2;omega
     ·omega⟩
   refine⟨λhr=>(by rw[hr] at J;exact absurd J List.not_mem_nil),λi B=>?_⟩
   have wZ:=aa i B
   obtain⟨h1,h2,S⟩:=oD.1 B
   have ae:i∈R:=by
    rcases(f i h1).1 h2 with h|h
    ·exact h
    ·omega
   clear J Z am hR y
   obtain⟨o,ho⟩:∃o,aY[i]?=some o:=⟨aY[i],by simp [h1]⟩
   have X:∀e∈o.after.toList,Region.binds .any e=true->e.on∉R:=λe q l x=>by
    have h4:=S o ho e q l;have h5:=jG N ho e q l;rw[F _ (by omega)] at h4;have I:=(f e.on (by omega)).2 (.inl x);rw[h4] at I;cases I
   obtain⟨t,post,rfl⟩:=zL ae
   obtain⟨T,a8,al⟩:=qd hp
   have x:∀p∈t.filterMap (aY[·]?),ot aY.toArray p o/\p∈aY:=λp M=>by
    obtain⟨j,u,a1⟩:=List.mem_filterMap.1 M;exact⟨sF N (T j u) a1 ho λe q l ad=>X e q l (by rw[ad];simp [u]),eh a1⟩
   have a5:(t++i::post).filterMap (aY[·]?)=t.filterMap (aY[·]?)++o::post.filterMap (aY[·]?):=by rw[pM,zJ,ho]
   rw[a5] at h
   have a9:=Ei dC x h aM m
   have a7:=(sJ cx.P G H aY.toArray s o).1 _ a9
   refine wpOpIn_mono ?_ (pA aM dC ho a7 m)
   rintro a' w' ⟨d,A,a4,hA,m'⟩
   have h4:=xZ (λp M=>(x p M).1) h a4 hA
   have E:∀j,j∈t++post->j∈t++i::post:=λj u=>by
    rcases bB.1 u with h|h
    ·simp [h]
    ·simp [h]
   have W:∀j,j∈t++i::post->j≠i->j∈t++post:=λj u ag=>by
    rcases bB.1 u with h|h
    ·simp [h]
    ·rcases bV.1 h with h|h
     ·exact absurd h ag
     ·simp [h]
   refine ih (t++post) _ (s.out o d A) a' w' ?_ al (λj u=>z j (E j u)) (by simpa using ir) (λj u=>?_) (λj o2 g L2 u e q l V=>?_) (by rw[jv];exact iL aM (tR hA)) m' (by rw[pM];exact h4)
   ·simp at cd ⊢;omega
   ·have a3:(c.setIfInBounds i true).getD j true=if j=i then true else c.getD j true:=qB _ _ _ _ _ (by omega)
    rw[a3]
    by_cases e:j=i
    ·rw[aD e]
     constructor
     ·intro h;cases h
     ·rintro(h|h)
      ·subst e
       rcases bB.1 h with h|h
       ·have:=T _ h;omega
       ·have:=a8 _ h;omega
      ·omega
    ·rw[aC e,f j u]
     exact⟨λh=>h.imp (λh=>W j h e) id,λh=>h.imp (λh=>E j h) id⟩
   ·by_cases e2:j=i
    ·subst e2
     rw[ho] at g
     injection g with g
     subst g
     exact X e q l (E _ V)
    ·exact L j o2 g L2 (λh=>u (W j h e2)) e q l (E _ V)
theorem ik {id:Nat}{Q:Exit->St->Prop}{s:St}(k:Nat)(G:Option Tmp->List D->D->aA->Prop)(hm:cx.P.follows .mixedOrders=true)(f:dQ cx.n aY=true)(q:ow aY=true)(t:BD aY (yI aY)=true)(c:Ir aY (yI aY) k=true)
  (h:∀N:St->Prop,(∀s,WL cx aY.toArray (aY.drop k) Q s->N s)->yx cx.P G s.H aY.toArray N (aY.take k) s):W cx (.region id aY.toArray true) Q s:=λa w m=>by
 refine wpIn_region_any hm ?_;have r:bj cx s a w.drew:=m.go (nV s.H w) m.H.drew;have p:k<aY.length:=by
  unfold Ir at c;rw[cX,cX,dF] at c;exact c.1.1
 have e:(List.range k).filterMap (aY[·]?)=aY.take k:=by
  rw[mT (g:=λi=>aY.getD i default) λi hi=>by
   have:i<k:=by simpa using hi
   have:i<aY.length:=by omega
   simp [List.getD,this]]
  apply np;intro i;by_cases hi:i<k
  ·have:i<aY.length:=by omega
   simp [hi,List.getD,mP,this]
  ·simp [hi,mP]
 refine LC f q t c _ (List.range k) _ s a _ (by simp;omega) tI (λi hi=>ib.1 hi) (by simp) (λi hi=>?_) (λj o u d l=>absurd (ib.2 d) l) (aF _) r (by rw[e];exact h _ λ_ h=>h);constructor
 ·intro _
  rw[ib];omega
 ·intro _
  simp [Array.getD,hi]
open Tryz
def Xs:ra:=⟨2,[],[],⟨0,[]⟩,ByteArray.empty⟩
def zS:bn:=⟨oA,[],[],[],[],0,[⟨[],Xs⟩]⟩
theorem qS (n:Int){t:List ByteArray}{l:List UInt8}(h:WS H0 b l H)(hl:(l++fy n).length<=1000000000):aN prog 83 [qX b t,i64 n] H λd H'=>WS H0 b (l++fy n) H':=by
 have g:=Ed n;have e:IntKind.u64.wrap n=((IntKind.u64.wrap n).toNat:Int):=by omega
 rw[aV] at hl;unfold qX;refine dO func83 ntmps83 results83 λj f Q a=>?_;refine tq @fB.eq_1 ?_;intro U Y O C;rw[e];refine(wB _ (by omega) h (by omega)).mono ?_;intro d H' c;refine u0 a ?_;exact⟨_,aF _,c⟩
def IL (i:Nat) (d:List UInt8):List UInt8:=UInt8.ofNat (i+1)::(put d.length++dW d)
def jq:Nat->List (List UInt8)->List UInt8
 |_,[]=>[]
 |i,d::l=>IL i d++jq (i+1) l
def Sq:List UInt8:=[77,73,82,84,1]
def gz (ds:List (List UInt8)):List UInt8:=Sq++jq 0 ds
theorem AB:∀(i:Nat) (l m:List (List UInt8)),jq i (l++m)=jq i l++jq (i+l.length) m
 |_,[],_=>rfl
 |i,d::l,m=>by
  simp only[dJ,jq,AB (i+1) l m,bx,bE];rw[show i+(l.length+1)=i+1+l.length by omega]
theorem wx (h:i<ds.length):jq 0 (ds.take (i+1))=jq 0 (ds.take i)++IL i ds[i]:=by
 rw[bw h,AB,bX,mZ (by omega)];simp [jq]
theorem AD (h:i<ds.length):∃r,jq 0 ds=jq 0 (ds.take i)++(IL i ds[i]++r):=by
 refine⟨jq (i+1) (ds.drop (i+1)),?_⟩;have e:ds=ds.take (i+1)++ds.drop (i+1):=(ga _ _).symm;have a:jq 0 ds=jq 0 (ds.take (i+1)++ds.drop (i+1)):=ai _ e;rw[a,AB,wx h,bX,mZ (by omega),bE,kG]
theorem vo (i:Nat)(d:List UInt8):(IL i d).length=1+((put d.length).length+(d.length+4)):=by unfold IL;rw[bx,aV,fM];omega
def XU (i:Nat) (d:List UInt8):List D:=[i64 (i+1:Nat),.seq 1 (d.map bD)]
def tu (ds:List (List UInt8)):List (List D):=ds.mapIdx XU
theorem GR (ds:List (List UInt8)):(tu ds).length=ds.length:=List.length_mapIdx
theorem GQ {ds:List (List UInt8)}{i:Nat}(h:i<ds.length):(tu ds)[i]?=some (XU i ds[i]):=by unfold tu;rw[List.getElem?_mapIdx,az h];rfl
theorem NR (ds:List (List UInt8))(H:aA)(hn:ds.length<=127)(hl:(gz ds).length<=1000000000):aN prog 40 [.seq 2 (tu ds)] H λd H'=>d=.eO [.seq 1 ((gz ds).map bD),i64 0]/\H=H':=by
 refine aq (K:=λd=>d=.eO [.seq 1 ((gz ds).map bD),i64 0]) ?_;have u:=GR ds;have L:(List.map bD Sq).length=5:=rfl;refine dO func40 ntmps40 results40 λw0 g0 Q J=>?_;refine to trivial ?_;intro U Y O C;intro b G M o;obtain⟨n2,o⟩:=bF.1 o;have x:H.le ((H.aU b (.row 5 0 1 [[.val (.int .u8 77)],[.val (.int .u8 73)],[.val (.int .u8 82)],[.val (.int .u8 84)]])).aU M (.row 5 0 1 [[.val (.int .u8 1)]])):=aQ (aQ (aF _) G) o;refine ax (e:=5) qL rfl qL rfl QP rfl (by decide) x (.inr ⟨b,0,rfl,rfl,G,(aJ (Ne.symm n2)).trans (aK _ _ _)⟩:Gl H 5 1 [[.val (.int .u8 77)],[.val (.int .u8 73)],[.val (.int .u8 82)],[.val (.int .u8 84)]] _ _ _) (new:=[[.val (.int .u8 1)]]) (PB (aK _ _ _) rfl) (by decide) λd v j a f _=>?_;refine tn u ?_;refine aO ds.length (λi s=>s.df=[]/\s.fr 12=.seq 2 (tu ds)/\s.fr 13=i64 ds.length/\s.fr 14=i64 i/\s.fr 5=i64 i/\H.le s.H/\∃j,Gl H 5 1 ((Sq++jq 0 (ds.take i)).map bD) (s.fr 4) s.H j) ⟨rfl,rfl,rfl,rfl,rfl,f,j,a⟩ ?_;rintro i s hi ⟨t,l,m,h,y,f,j,a⟩;by_cases c:i<ds.length
 case neg=>
  have F:=lF i ds.length;rw[bK (by omega)] at a;refine ur J (cw l m h y F) t ?_;exact⟨_,aF _,f,_,lI (HP (da f a) (aL f)),rfl⟩
 have F:=lT i ds.length c;have p:=GQ c;unfold XU at p;have R:=aX i;have z:=aZ i;have w:(i:Int)<(ds.length:Int):=by omega
 have T:=nF (((i+1:Nat):Int)<=(i:Int));have V:=nF ((127:Int)<((i+1:Nat):Int));have Z:=wS i;have I:=wx c;obtain⟨r,D⟩:=AD c;have S:(gz ds).length=5+((jq 0 (ds.take i)).length+(1+((put ds[i].length).length+(ds[i].length+4))+r.length)):=by unfold gz;rw[D,aV,aV,aV,vo];rfl
 have E:=fM ds[i];have q:(Sq++jq 0 (ds.take i)).length=5+(jq 0 (ds.take i)).length:=by rw[aV];rfl
 have W:IntKind.u8.wrap ((i+1:Nat):Int)=((UInt8.ofNat (i+1)).toNat:Int):=by rw[pJ,pN];omega
 obtain⟨g,N⟩:=oX ds[i];rw[<-N] at p S E I;have B:=lm bD g;have X:IntKind.u64.wrap (g.length:Int)=(g.length:Int):=iP (by omega);have P:=eX g.length (by omega);refine tq (bG l m h y F p R (cA z u c w)) ?_;intro U Y O C;intro b3 A;refine Y _ ?_;refine cm 7 A ?_;refine tq (cw h y T V W) ?_;intro U Y O C;refine ax (e:=5) qL rfl qL rfl QP rfl (by decide) f a (new:=[UInt8.ofNat (i+1)].map bD) (by exact⟨rfl,rfl⟩) (by rw[aS,aS,q];show(_+1) * 1<=_;omega) λd v j a f _=>?_;rw[<-bI] at a;refine tq (av X B) ?_;intro U Y O C;refine(Uu g.length _ (by omega)).qt ?_;intro U Y O C;refine ax (e:=5) qL rfl qL rfl QP rfl (by decide) f a (new:=(put g.length).map bD) (by exact⟨rfl,rfl⟩) (by rw[aS,aS,aV,q,eE];show(_+_) * 1<=_;omega) λd v j a f _=>?_;rw[<-bI] at a;refine t0 ?_;intro U Y O C;refine(YP g _ (by omega)).qt ?_;intro U Y O C;refine ax (e:=5) qL rfl qL rfl QP rfl (by decide) f a (new:=(dW g).map bD) (by exact⟨rfl,rfl⟩) (by rw[aS,aS,aV,aV,q,eE];show(_+_) * 1<=_;omega) λd v j a f _=>?_;rw[<-bI] at a;refine tq (av h Z) ?_;intro U Y O C;refine⟨c,t,l,m,rfl,rfl,f,j,?_⟩;have e:Sq++jq 0 (ds.take (i+1))=Sq++jq 0 (ds.take i)++[UInt8.ofNat (i+1)]++put g.length++dW g:=by rw[I];unfold IL;simp
 rw[e];exact a
def u4 (ds:List (List UInt8)) (i:Nat):Nat:=5+(jq 0 (ds.take i)).length
def og (ds:List (List UInt8)) (i:Nat):List UInt8:=ds.getD i []
def FW (ds:List (List UInt8)) (i:Nat):Nat:=u4 ds i+1+(put (og ds i).length).length
def Gh (ds:List (List UInt8)) (i:Nat):Nat:=FW ds i+(og ds i).length
def Nw (ds:List (List UInt8)) (i:Nat):List D:=[i64 (i+1:Nat),i64 (FW ds i),i64 (Gh ds i),i64 0]
theorem zv {ds:List (List UInt8)}{i:Nat}(h:i<ds.length):og ds i=ds[i]:=by simp [og,List.getD,h]
theorem Da (h:i<ds.length):∃p r,gz ds=p++(UInt8.ofNat (i+1)::(put (og ds i).length++(dW (og ds i)++r)))/\p.length=u4 ds i:=by
 obtain⟨r,a⟩:=AD h;refine⟨Sq++jq 0 (ds.take i),r,?_,by rw[aV];rfl⟩;unfold gz;rw[a,zv h];simp [IL]
theorem Ln (h:i<ds.length):u4 ds (i+1)=Gh ds i+4:=by
 unfold Gh FW u4;rw[wx h,aV,vo,zv h];omega
theorem PX (ds:List (List UInt8)):u4 ds ds.length=(gz ds).length:=by unfold u4 gz;rw[dI,aV];rfl
theorem Ec (h:i<ds.length):Gh ds i+4<=(gz ds).length/\u4 ds i<FW ds i:=by
 obtain⟨p,r,a,d⟩:=Da h;have c:=ai List.length a;have e:=fM (og ds i);simp only[aV,bx] at c;unfold Gh FW;omega
theorem Wy (ds:List (List UInt8))(i:Nat)(H:aA)(h:i<ds.length)(hn:ds.length<=127)(hl:(gz ds).length<=1000000000):
  aN prog 92 [.seq 1 ((gz ds).map bD),i64 (u4 ds i),i64 i] H λd H'=>d=.agg (Nw ds i)/\H=H':=by
 obtain⟨p,r,s,y⟩:=Da h;obtain⟨ht,hf⟩:=Ec h;have P:=fM (og ds i);have xu:FW ds i=u4 ds i+1+(put (og ds i).length).length:=rfl;have N:Gh ds i=FW ds i+(og ds i).length:=rfl;unfold Nw;generalize L:gz ds=c at *;generalize u4 ds i=a at *;generalize FW ds i=f at *;generalize Gh ds i=t at *;generalize K:og ds i=g at *;have j:=lm bD c;have M:(UInt8.ofNat (i+1)).toNat=i+1:=by rw[pN];omega
 have o:a<c.length:=by omega
 have z:(c.map bD)[a]?=some [.val (.int .u8 ((i+1:Nat):Int))]:=by
  rw[bg,s,mO (by omega),y,wU,lk];show some (bD (UInt8.ofNat (i+1)))=_;unfold bD;rw[M]
 have u:zV c (a+1) g.length f:=⟨⟨p++[UInt8.ofNat (i+1)],dW g++r,by rw[s];simp,by rw[aV,y];rfl,by omega⟩,by omega⟩;have q:List.drop f (List.take (t+4) (c.map bD))=(dW g).map bD:=by
  have e:c=(p++[UInt8.ofNat (i+1)]++put g.length)++(dW g++r):=by rw[s];simp
  have I:(p++[UInt8.ofNat (i+1)]++put g.length).length=f:=by simp only[aV,eE];omega
  have J:List.drop f c=dW g++r:=by rw[e,<-I,List.drop_left]
  rw[List.drop_take,<-List.map_drop,J,<-iK,show t+4 - f=(dW g).length by omega,List.take_left]
 have E:IntKind.i64.wrap ((i+1:Nat):Int)=((i+1:Nat):Int):=aP (by omega);have F:=wS a;have A:=aX a;have m:=aZ a;have l:(a:Int)<(c.length:Int):=by omega
 have B:=nF (((i+1:Nat):Int)<=(i:Int));have D:=nF ((127:Int)<((i+1:Nat):Int));have T:IntKind.i64.wrap ((c.length:Int) - (f:Int))=(c.length:Int) - f:=aP (by omega);have V:IntKind.i64.wrap ((c.length:Int) - (f:Int) - 4)=(c.length:Int) - f - 4:=aP (by omega);have W:IntKind.u64.wrap ((c.length:Int) - (f:Int) - 4)=(c.length:Int) - f - 4:=iP (by omega);have R:=nF ((c.length:Int) - (f:Int) - 4<0);have S:=nF ((c.length:Int) - (f:Int) - 4<(g.length:Int));have X:IntKind.i64.wrap (g.length:Int)=(g.length:Int):=aP (by omega);have Z:IntKind.i64.wrap ((f:Int)+(g.length:Int))=(t:Int):=by rw[aP (by omega)];omega
 have w8:IntKind.i64.wrap ((t:Int)+4)=((t+4:Nat):Int):=by rw[aP (by omega)];omega
 have w:=aX f;have x:((t+4:Nat):Int).toNat=t+4:=aX _;clear L K;refine dO func92 ntmps92 results92 λw0 g0 Q G=>?_;refine tq (bG z E F A m o l (bQ j B D)) ?_;intro U Y O C;intro r0 v;refine Y _ ?_;refine tq (bG z E F A m o l (bQ j B D)) ?_;intro U Y O C;refine(OC u _ (by omega)).qs (bG j T V W R S X (cw Z w8 q w x)) ?_;intro U Y O C;refine⟨by omega,by omega,by omega,(Vr g _ (by omega)).mono ?_⟩;rintro d _ ⟨rfl,rfl⟩;refine u0 G ?_;exact⟨H,aQ (aF _) v,rfl⟩
def YJ {c:Type}(J:List c->aA->Prop) (a:List c) (b:Nat) (y:cY) (H:aA):Prop:=∃Hc,H=Hc.aU b y/\(∀z,Hc b=some z->∃o,z=.obj o)/\J a Hc
theorem bj.hold {s:St}{a:Act}{w:World}(m:bj cx s a w){t:TypeId}{o:Nat}{els:List (List D)}(hb:s.H b=some (.row t o sz els)):∃ob,w.heap[b]?=some ob/\Ev s.H w (s.H.aU b (.obj ob)) w/\bj cx (s.cJ (s.H.aU b (.obj ob))) a w:=by
 obtain⟨cs,f,d,_⟩:=m.H b _ hb;have c:Ev s.H w (s.H.aU b (.obj (.cells cs t f))) w:=jI (by rw[hb];simp) rfl rfl rfl rfl (λ_ _=>rfl) λg j e h=>⟨g,e,h,rfl⟩;exact⟨_,d,c,m.go c (hQ m.H c (λ_ _=>rfl) d)⟩
theorem KY {M:Type}{cx:Cx}{o:Oper}{K:St->Prop}{s:St}{c:Call}{f:Operand}{l:Nat}{J Jx:List M->aA->Prop}{v:M->List D}{Pf:List M->Prop}(g:List M)(x:M){b:Nat}{t:TypeId}{ro sz:Nat}{els:List (List D)}
  (I:o.op=.call c) (V:c.callee=.value f) (hf:s.ev f=yD l) (hd:qP cx.n o.dst) (hY:Xm cx.P l cx.H0 cx.w0 J Jx v Pf) (hC:yN cx.H0 J) (hb:cx.H0 b=none) (hx:Pf (g++[x])) (hJ:YJ J g b (.row t ro sz els) s.H) (ha:s.rh c.args=v x)
  (ht:∀H',YJ J (g++[x]) b (.row t ro sz els) H'->K ((s.cJ H').put o.dst (.val (.bool true)))) (hn:∀H',YJ Jx (g++[x]) b (.row t ro sz els) H'->K ((s.cJ H').put o.dst (.val (.bool false)))):WO cx o K s:=λa w m=>by
 refine⟨gw,?_⟩;rw[u7 (by simp [I])];obtain⟨Hc,hH,hz,hj⟩:=hJ;have L:s.H b=some (.row t ro sz els):=by rw[hH,aK]
 obtain⟨j,a2,T,m0⟩:=m.hold L;have W:s.H.aU b (.obj j)=Hc.aU b (.obj j):=by rw[hH,wV]
 have a1:J g (s.H.aU b (.obj j)):=by rw[W];exact hC _ _ _ _ hb hz hj
 have y:=m.nz f;rw[hf] at y;simp only[yD,D.is] at y;have B:=m0.Db c.args;have Z:(s.cJ (s.H.aU b (.obj j))).rh c.args=v x:=ha;rw[Z] at B;obtain⟨fn,u,d,q,hy,hR⟩:=hY g x _ w _ hx a1 m0.H m0.ev B;have S:(execOp a.eval o).run cx.P w=.ok (.round l fn u d q) w:=by
  simp only[execOp,I,resolve,V,y,Deferred.ofValue,Sem.run_bind,Sem.run_pure,Result.andThen,invoke];have e:(c.args.map a.eval).toList.toArray=c.args.map a.eval:=Array.toArray_toList;rw[e] at hy;simpa using hy
 rw[S,Oper.uponIn_round];refine⟨λa0=>(by cases a0),?_⟩;have X:RoundIn (FR cx.ro) 8 cx.P l fn u d q w _:=hR;have F:∀(H':aA) (p:World),eF p H'->Ev (s.H.aU b (.obj j)) w H' p->H' b=some (.obj j)->bj cx (s.cJ (H'.aU b (.row t ro sz els))) a p:=λH' p G N r=>by
  have h4:p.heap[b]?=some j:=G b _ r;have E:Ev H' p (H'.aU b (.row t ro sz els)) p:=jI (by rw[r];simp) rfl rfl rfl rfl (λ_ _=>rfl) λnN t' De h=>⟨nN,De,h,rfl⟩;have A:Ev s.H w (H'.aU b (.row t ro sz els)) p:=(T.trans N).trans E;exact m.go A (hQ G E (λ_ _=>rfl) (A.jb (h4.trans a2.symm) (m.H b _ L)))
 refine X.mono λe p ⟨H',G,N,h5,r⟩=>?_;have R:H' b=some (.obj j):=h5 b j hb (aK _ _ _);rcases r with⟨rfl,r⟩|⟨rfl,r⟩
 ·exact⟨_,(F H' p G N R).put (fI hd) (by simp only[D.is]),ht _ ⟨H',rfl,λz h=>⟨j,by rw[R] at h;injection h with h;exact h.symm⟩,r⟩⟩
 ·exact⟨_,(F H' p G N R).put (fI hd) (by simp only[D.is]),hn _ ⟨H',rfl,λz h=>⟨j,by rw[R] at h;injection h with h;exact h.symm⟩,r⟩⟩
def YH {f:Type}(J d:List f->aA->Prop) (e:List f) (H0 H:aA):Prop:=
 (J e H\/∃a,d a H)\/∃b t o sz c,H0 b=none/\(YJ J e b (.row t o sz c) H\/∃a,YJ d a b (.row t o sz c) H)
theorem OS {α:Type}{P:Program}{f:FuncId}{fn:Func}{c:Code}{I:List D}{G:α->List D}{y:List α}{ok:aA->Prop}(N:Nat)(hf:P.funcs[f]?=some fn)(mh:(fn.name== "runtime.NumGoroutine")=false)(hb:fn.body=some c)(hN:fn.ntmps=N)(xv:fn.results= #[])(hl:I.length+1<=N)
  (h:∀(l:Nat) (J r:List α->aA->Prop) (H:aA) (w0:World) (g0:wW w0 H) (Q:Exit->St->Prop),ok H->J [] H->yN H J->yN H r->YC P l H w0 J r G y->(∀e s,e=.normal\/e=.ret->s.df=[]->YH J r y H s.H->Q e s)->W ⟨P,none,N,H,w0,g0⟩ c Q (St.init (yD l::I) H)):BY P f I G y ok:=And.intro (jH hf mh hb) λl J r H w V dC hH Z hJ hC K _ hY js=>by
 have a2:Calls P f V.toArray w λe p=>∃v d g,e=.returned v/\D.is p g.others d v/\eF p g/\Ev H w g p/\(J y g\/∃a,r a g):=by
  refine mf (ro:=none) (n:=9) (callsIn_of_wp hf hb trivial ?_ rfl);have cd:=fo js;obtain⟨ds,M⟩:∃ds,ds=yD l::I:=⟨_,rfl⟩;have a5:ds.length<=N:=by rw[M];exact hl
  have m:bj ⟨P,none,N,H,w,Z⟩ (St.init (yD l::I) H) {tmps:=V.toArray++Array.replicate (fn.ntmps - V.toArray.size) undef,defers:=[]} w:=by
   rw[<-M] at cd js ⊢;refine⟨by simp;omega,rfl,λt=>?_,hH,dr _ _⟩;simp only[St.init];rcases fv t ds.length with R|wY
   ·obtain⟨v,x,z⟩:=iO js t ds[t] (by simp [R])
    have e1:ds.getD t (.val undef)=ds[t]:=by simp [List.getD,R]
    have e2:(V.toArray++Array.replicate (fn.ntmps - V.toArray.size) undef).getD t undef=v:=by
     rw[nK,wF (by simp;omega)];simp [x]
    rw[e1,e2];exact z
   ·have e1:ds.getD t (.val undef)=.val undef:=by simp [List.getD,wY]
    rw[e1];simp only[D.is];rw[nK,wD (by simp;omega),wG];split <;> rfl
  refine wpIn_mono (h l J r H w Z (λe s=>(e=.normal\/e=.ret)/\s.df=[]/\YH J r y H s.H) dC hJ hC K hY (λe s he j hr=>⟨he,j,hr⟩) _ _ m) λe X p ⟨E,m',he,j,q⟩=>?_;have fin:∃F:St,F.df=[]/\bj ⟨P,none,N,H,w,Z⟩ F X p/\(J y F.H\/∃a,r a F.H):=by
   rcases q with q|⟨b,t,o,sz,a4,L,q⟩
   ·exact⟨E,j,m',q⟩
   ·rcases q with⟨Hc,u,hz,hj⟩|⟨a,Hc,u,hz,hj⟩
    ·obtain⟨T,_,_,B⟩:=m'.hold (b:=b) (by rw[u,aK])
     refine⟨E.cJ (E.H.aU b (.obj T)),j,B,.inl ?_⟩;show J y (E.H.aU b (.obj T));rw[u,wV];exact hC _ _ _ _ L hz hj
    ·obtain⟨T,_,_,B⟩:=m'.hold (b:=b) (by rw[u,aK])
     refine⟨E.cJ (E.H.aU b (.obj T)),j,B,.inr ⟨a,?_⟩⟩;show r a (E.H.aU b (.obj T));rw[u,wV];exact K _ _ _ _ L hz hj
  obtain⟨F,a1,B,a3⟩:=fin;have q2:LK ⟨P,none,N,H,w,Z⟩ fn (λ_ g=>J y g\/∃a,r a g) .ret F:=sG (.inr rfl) a1 (by rw[xv];exact⟨F.H,aF _,a3⟩);have S:X.defers=[]/\∃v,(results fn X.tmps).run P p=.ok v p/\∃v' d g,Ending.returned v=.returned v'/\D.is p g.others d v'/\eF p g/\Ev H w g p/\(J y g\/∃a,r a g):=by
   obtain⟨j,a0⟩:=q2;obtain⟨v,d,g,x,z,A,h4⟩:=a0 X p B;have m3:=B.less A;exact⟨B.df.trans j,v,x,v,d,g,rfl,z,m3.H,m3.ev,h4⟩
  rcases he with rfl|rfl
  ·obtain⟨x,v,z,A⟩:=S
   exact⟨x,v,z,A⟩
  ·obtain⟨x,v,z,A⟩:=S
   exact⟨x,v,z,A⟩
 refine a2.mono ?_;rintro e p ⟨v,d,g,x,_,A,h4,h5⟩;exact⟨v,g,x,A,h4,h5.imp (λh=>⟨_,rfl,h⟩) id⟩
def aA.qb (H:aA):aA:=λb=>match H b with
 |some (.obj _)=>Option.none
 |x=>x
theorem jK (H:aA):∀b o,H.qb b≠some (.obj o):=λb o h=>by
 unfold aA.qb at h;split at h
 ·cases h
 ·rename_i a;exact a o h
theorem uV (H:aA):H.qb.le H:=λb x h=>by
 unfold aA.qb at h;split at h
 ·cases h
 ·exact h
theorem ie {x:cY}(h:H b=some x)(hx:∀o,x≠ .obj o):H.qb b=some x:=by
 unfold aA.qb;split
 ·rename_i o e
  rw[h] at e;injection e with e
  exact absurd e (hx o)
 ·exact h
theorem jL (h:H b=Option.none):H.qb b=Option.none:=by unfold aA.qb;rw[h]
theorem lO {H1:aA}(h1:H.qb.le Hc)(h2:H.le H1)(h3:gE H1 Hc):H.le Hc:=λb x a=>by
 cases x with
 |obj o=>exact h3 b o (h2 b _ a)
 |row t o sz c=>exact h1 b _ (ie a (by simp))
 |map m=>exact h1 b _ (ie a (by simp))
 |hid=>exact h1 b _ (ie a (by simp))
theorem Di {e:TypeId}{els:List (List D)}{d:D}{ob:Option Nat}(h:Gl H.qb e sz els d Hc ob)(j:H.le Hc):Gl H e sz els d Hc ob:=by
 rcases h with h|⟨c,o,l,p,a,g⟩
 ·exact .inl h
 ·refine .inr ⟨c,o,l,p,?_,g⟩
  cases f:H c with
  |none=>rfl
  |some x=>
   cases x with
   |obj o=>have:=j _ _ f;rw[g] at this;cases this
   |row t o sz els=>rw[ie f (by simp)] at a;cases a
   |map m=>rw[ie f (by simp)] at a;cases a
   |hid=>rw[ie f (by simp)] at a;cases a
theorem gO {H':aA}(a:∀b o,H0 b≠some (.obj o))(h:H0.le H)(hr:Am H H'):H0.le H':=λb x c=>hr b x (h b x c) (λo e=>a b o (by rw[c,e]))
theorem Sr (ds:List (List UInt8)):(gz ds).take 4=[77,73,82,84]/\(gz ds).length=5+(jq 0 ds).length/\(gz ds)[4]?=some 1:=by
 unfold gz Sq;exact⟨rfl,by rw[aV];rfl,rfl⟩
theorem K9 (l:List UInt8)(n:Nat):(dg l).extract 0 n=dg (l.take n):=by
 apply ByteArray.ext;rw[zE];apply gm;simp [dg]
theorem ZK (l:List UInt8)(H:aA)(hl:l.length<=1000000000)(h:l.take 4=[77,73,82,84]):aN prog 91 [.val (.string (dg l)),.val (.string (dg [77,73,82,84]))] H λd H'=>d=.val (.bool true)/\H=H':=by
 have o:=gx l;have r:4<=l.length:=by
  have:=ai List.length h;rw[bX] at this;simp at this;omega
 have e:(dg [77,73,82,84]).size=4:=rfl;have q:=nT ((4:Int)<=(l.length:Int));have m:∀a,aN prog 163 [.val (.string (dg l)),.val (.string (dg [77,73,82,84]))] a λd H'=>d=.val (.bool true)/\a=H':=λa=>by
  have f:=K9 l 4;rw[h] at f;have g:decide ((dg [77,73,82,84])=dg [77,73,82,84])=true:=ah rfl;refine dO func163 ntmps163 results163 λp j Q c=>?_;refine ur c (cw o e q f g) trivial ?_;exact⟨_,aF _,rfl⟩
 refine dO func91 ntmps91 results91 λp j Q c=>?_;refine t0 ?_;intro U Y O C;refine(m _).q ?_;refine u0 c ?_;exact⟨_,aF _,rfl⟩
theorem LX (b:List UInt8)(H:aA):aN prog 42 [.seq 1 (b.map bD)] H λd H'=>d=.fn 90 [.rp [.seq 1 (b.map bD)]]/\H=H':=by
 refine dO func42 ntmps42 results42 λg f Q c=>?_;refine t0 ?_;intro U Y O C;intro e a;refine Y _ ?_;refine cm 1 a ?_;refine u0 c ?_;exact⟨_,aF _,rfl⟩
theorem XO (h:i<n):List.range i++[i]<+:List.range n:=by
 rw[<-rG,show List.range (i+1)=(List.range n).take (i+1) by rw[List.take_range,mZ (by omega)]];exact List.take_prefix _ _
theorem P6 {a:List Nat}{x:Nat}(h:(a++[x])<+:List.range n):a=List.range a.length/\x=a.length/\a.length<n:=by
 have c:=h.length_le;rw[aV,tL,eE] at c;have e:=List.prefix_iff_eq_take.1 h;rw[List.take_range,mZ (by rw[aV];exact c),aV,eE,rG] at e;obtain⟨d,e2⟩:=List.append_inj' e rfl;exact⟨d,by simpa using e2,by omega⟩
theorem HO (ds:List (List UInt8))(hn:ds.length<=127)(hl:(gz ds).length<=1000000000):BY prog 90 [.rp [.seq 1 ((gz ds).map bD)]] (λi=>[.agg (Nw ds i)]) (List.range ds.length) λ_=>True:=by
 obtain⟨K,m2,L⟩:=Sr ds;have v:u4 ds 0=5:=by simp [u4,jq]
 have w:=PX ds;have x:=λi=>λh:i<ds.length=>Ec h;have g:=λi=>λh:i<ds.length=>Ln h;have u:=λi H=>λh:i<ds.length=>Wy ds i H h hn hl;generalize E:gz ds=a at *;have f:=lm bD a;have M:=nF ((a.length:Int)=4);have I:(a.map bD)[4]?=some [.val (.int .u8 1)]:=by rw[bg,L];rfl
 have N:(4:Int)<(a.length:Int):=by omega
 have P:4<a.length:=by omega
 have r:=ru a;clear E;refine yg _ func90 rfl rfl ntmps90 results90 (by simp) λl J S H w0 W Q V F G z=>?_;refine tq r ?_;intro U Y O C;refine(ZK a _ hl K).qs (cw f M I N P) ?_;intro U Y O C;refine aO ds.length (λi s=>s.df=[]/\s.fr 0=yD l/\s.fr 1=.rp [.seq 1 (a.map bD)]/\s.fr 3=i64 i/\s.fr 4=i64 (u4 ds i)/\J (List.range i) s.H) ⟨rfl,rfl,rfl,rfl,by rw[v];rfl,F⟩ ?_;rintro i s Z ⟨e,j,m,D,o,A⟩;by_cases c:i<ds.length
 case neg=>
  have t:i=ds.length:=by omega
  subst t;rw[w] at o;have y:=nF ((a.length:Int)<(a.length:Int));refine tq (cA m o f y) ?_;intro U Y O C;exact z _ _ (.inl rfl) e (.inl A)
 obtain⟨ht,X⟩:=x i c;have g:=g i c;have y:((u4 ds i:Int)<(a.length:Int))=True:=aG (by have:FW ds i<=Gh ds i:=wP _ _;omega);have R:IntKind.i64.wrap ((Gh ds i:Int)+4)=(u4 ds (i+1):Int):=by rw[aP (by omega),g];omega
 refine tq (cw m D o f y) ?_;intro U Y O C;refine(u i _ c).q ?_;unfold Nw;refine t0 ?_;intro U Y O C;intro T p;refine Y _ ?_;refine cm 5 p ?_;(iterate 2 (refine tk j ?_;intro U Y O C));(have fs:=j;refine x9 (2) (by kernel_rfl) ?_;refine Rw ?_;(try clear fs));refine lA rfl (oI (List.range i) i rfl rfl rfl (by simp [qP]) G (XO c) A rfl (λB d=>?_) λB d=>?_)
 ·rw[<-rG] at d
  refine tq j ?_;intro U Y O C;refine dE (λ_ _ _ _=>False) λU Y=>?_;refine dst R ?_;intro U Y O C;exact⟨c,e,j,m,rfl,rfl,d⟩
 ·refine tq j ?_;intro U Y O C
  exact z _ _ (.inr rfl) e (.inr ⟨_,d⟩)
def RdT (H0:aA) (ds:List (List UInt8)) (d e f:Nat) (a:List Nat) (H:aA):Prop:=
 a.length<=ds.length/\H0.qb.le H/\H d=some (.row 51 0 1 [[.val (.slice none 0 0)]])/\H e=some (.row 48 0 1 [[i64 0]])/\∃x c,H f=some (.row 51 0 1 [[x]])/\Gl H0.qb 58 2 ((tu ds).take a.length) x H c/\c≠some d/\c≠some e/\c≠some f
theorem IG (ds:List (List UInt8))(H:aA)(hn:ds.length<=127)(hl:(gz ds).length<=1000000000):aN prog 11 [.seq 1 ((gz ds).map bD)] H λd H'=>d=.eO [.seq 2 (tu ds),i64 0]/\H=H':=by
 refine aq (K:=λd=>d=.eO [.seq 2 (tu ds),i64 0]) ?_;have it:=HO ds hn hl;have a5:=λi=>λh:i<ds.length=>Ec h;have ye:=GR ds;have b0:=λi=>λh:i<ds.length=>@GQ ds i h;have L:∀i,i<ds.length->List.drop (FW ds i) (List.take (Gh ds i) ((gz ds).map bD))=(og ds i).map bD:=λi h=>by
  obtain⟨p,r,h1,N⟩:=Da h;have e:gz ds=(p++[UInt8.ofNat (i+1)]++put (og ds i).length)++(og ds i++(MV 4 (Kq 0#32 (og ds i))++r)):=by rw[h1];simp [dW]
  have e2:(p++[UInt8.ofNat (i+1)]++put (og ds i).length).length=FW ds i:=by unfold FW;simp only[aV,eE];omega
  have e3:List.drop (FW ds i) (gz ds)=og ds i++(MV 4 (Kq 0#32 (og ds i))++r):=by rw[e,<-e2,List.drop_left]
  rw[List.drop_take,<-List.map_drop,e3,<-iK,show Gh ds i - FW ds i=(og ds i).length by unfold Gh;omega,List.take_left]
 have a2:∀i,i<ds.length->(og ds i).length<=(gz ds).length:=λi h=>by have:=(a5 i h).1;unfold Gh at this;omega
 have ar:=λi=>λh:i<ds.length=>@zv ds i h;generalize gz ds=bs at *;have aw:=lm bD bs;refine lH _ _ func11 rfl rfl ntmps11 results11 (by simp) λw0 g0 Q aB=>?_;refine t0 ?_;intro U Y O C;intro b1 ap W w X g;refine Y _ ?_;obtain⟨a6,w⟩:=bF.1 w;obtain⟨S,g⟩:=bF.1 g;obtain⟨a7,g⟩:=bF.1 g;refine dZ 1 rfl (b:=b1) (by simp only[iN,uP];rw[aJ (Ne.symm a7),aJ (Ne.symm a6),aK]) rfl ?_;simp only[St.ku,iN,fC,uP,oR,kC (Ne.symm a7),kC (Ne.symm a6),kX,iy ap,List.drop];refine t0 ?_;intro U Y O C;intro b4 j;refine Y _ ?_;obtain⟨a9,j⟩:=bF.1 j;obtain⟨a8,j⟩:=bF.1 j;obtain⟨H2,f⟩:=oX (((H.aU W (.row 51 0 1 [[.val (.slice none 0 0)]])).aU X (.row 48 0 1 [[i64 0]])).aU b4 (.row 51 0 1 [[.val (.slice none 0 0)]]));have J:H.le H2:=by rw[f];exact aQ (aQ (aQ (aF _) w) g) j
 have e2:H2 W=some (.row 51 0 1 [[.val (.slice none 0 0)]]):=by rw[f,aJ (Ne.symm a8),aJ (Ne.symm S),aK]
 have e3:H2 X=some (.row 48 0 1 [[i64 0]]):=by rw[f,aJ (Ne.symm a9),aK]
 have e4:H2 b4=some (.row 51 0 1 [[.val (.slice none 0 0)]]):=by rw[f,aK]
 simp only[i64] at f;rw[<-f];clear f;refine t0 ?_;intro U Y O C;refine(LX bs _).qt ?_;intro U Y O C;refine iz (λs=>s.df=[]/\s.fr 1=.rp [.seq 1 (bs.map bD)]/\s.fr 2=.ep W 0 1 0 0/\s.fr 3=.ep X 0 1 0 0/\s.fr 4=.ep b4 0 1 0 0/\s.fr 7=.fn 90 [.rp [.seq 1 (bs.map bD)]]/\s.H=H2) ⟨rfl,rfl,rfl,rfl,rfl,rfl,rfl⟩ ?_;rintro s ⟨a1,f1,f2,f3,f4,f7,R⟩;refine kZ rfl it f7 (λ_ _=>trivial) (by simp) (λ_=>rfl) (RdT H ds W X b4) (λ_ _ _=>False) ?_ ?_ ?_ ?_ ?_ ?_
 ·rintro bk H1 H3 hr ⟨h1,h0,F,G,x,ob,v,h6,h7⟩
  refine⟨h1,gO (jK H) h0 hr,hr _ _ F (by simp),hr _ _ G (by simp),x,ob,hr _ _ v (by simp),?_,h7⟩;rcases h6 with h6|⟨c,o,g1,g2,g3,g4⟩
  ·exact .inl h6
  ·exact .inr ⟨c,o,g1,g2,g3,hr _ _ g4 (by simp)⟩
 ·exact λ_ _ _ _ _ h=>h
 ·rw[R]
  exact⟨jY _,iL (uV H) J,e2,e3,_,none,e4,eB _ _ _ _,by simp,by simp,by simp⟩
 ·rintro l w1 u x Hc o g1 ae ⟨bi,h0,N,F,xs,ob,G,Z,T,V,aa⟩ a4 B
  obtain⟨b9,rfl,m⟩:=P6 ae;clear b9;rw[Ls];have b6:(tu ds).take (u.length+1)=(tu ds).take u.length++[[i64 (u.length+1:Nat),.seq 1 ((og ds u.length).map bD)]]:=by
   have v:=b0 _ m;rw[<-ar _ m] at v;rw[List.take_add_one,v];rfl
  have L:=L _ m;have a2:=a2 _ m;obtain⟨ht,hf⟩:=a5 _ m;have be:FW ds u.length<=Gh ds u.length:=wP _ _;have bf:((tu ds).take u.length).length<=127:=by rw[bX];omega
  have a0:(u++[u.length]).length=u.length+1:=by rw[aV];rfl
  unfold Nw;generalize hk:u.length=k at *;generalize FW ds k=al at *;generalize Gh ds k=bb at *;generalize og ds k=D1 at *;have b7:=aX al;have b8:=aX bb;refine tq (cw cR cO cE au a1) ?_;intro U Y O C;intro b5 P;refine Y _ ?_;simp only[cF];refine⟨rfl,gE.new (jU _) P,λw2 y g2=>?_⟩;have n5:∀c x,Hc c=some x->c≠b5:=λc x h e=>by rw[e,P] at h;cases h
  have ne:∀c t e,Hc c=some (.row t 0 1 e)->c≠l:=λc t e h e2=>by rw[e2,B] at h;cases h
  have m2:=ne _ _ _ N;have m3:=ne _ _ _ F;have m4:=ne _ _ _ G;have l5:=n5 _ _ B;refine dZ 5 rfl (b:=b5) (by simp only[iN,cO,fS];rw[aJ (Ne.symm l5),aK]) rfl ?_;simp only[St.ku,iN,cO,fS,fC,au,eL,kC (Ne.symm l5),kX,iy P,List.drop];have ak:=λ(x:cY) (hx:∀o,x≠ .obj o)=>oC (H:=Hc) (b:=b5) (l:=l) (y:=y) hx;have r2:=(aJ (x:=.obj y) m2).trans N;have r3:=(aJ (x:=.obj y) m3).trans F;have r4:=(aJ (x:=.obj y) m4).trans G;have ag:=gO (jK H) h0 (kA (x:=.obj y) B);have a:=Z.obj (x:=.obj y) B;refine tq (cA cR cO cE au) ?_;intro U Y O C;refine wE (λt=>decide (t=some 16\/t=some 17\/t=some 19\/t=some 21\/t=some 22)) (λ_=>false) (λ_ _ d A=>A=.none/\d=.seq 1 (D1.map bD)) (λ_ _ _ _ _=>False) λU Y=>?_;have fs:=And.intro cR (And.intro cO (And.intro cE (And.intro au (And.intro f1 (And.intro f4 (And.intro r4 (And.intro L (And.intro aw (And.intro b7 b8)))))))));refine uj ?_;refine nx ?_;(try clear fs);refine⟨by omega,by omega,by omega,an λac bc=>sB _ ac (by rw[aS];omega),?_⟩;refine ax (e:=58) Xb rfl Xb rfl aBF rfl (by decide) ag a (new:=[[i64 (k+1:Nat),.seq 1 (D1.map bD)]]) (by exact⟨rfl,rfl⟩) (by show(_+1) * 32<=_;omega) λd' H6 ba a3 ad E=>?_;have q2:=E _ _ r2 T;have q3:=E _ _ r3 V;have q4:=E _ _ r4 aa;have q:=a3.cells;simp only[D.cells] at q;have ab:=q4.1;refine eV (av ab q) ?_;refine nx ?_;simp only[fK,cp];refine⟨rfl,(qD (ak _ (by simp)) a E).row ab (by simp),by rw[a0];exact m,aQ ad (jL j),(aJ (Ne.symm a8)).trans q2.1,(aJ (Ne.symm a9)).trans q3.1,d',ba,aK _ _ _,?_,q2.2,q3.2,q4.2⟩;rw[a0,b6];exact a3.cM λc h=>aJ λe=>q4.2 (by rw[h,e])
 ·rintro Hc M ⟨h1,h0,N,F,xs,ob,G,Z,T,V,aa⟩ a4 hD am
  rw[mK,cp,cF,a1];have g2:=lO h0 (H1:=s.H) (by rw[R];exact J) a4;have a:Gl H 58 2 (tu ds) xs Hc ob:=by
   rw[tL,bK (by omega)] at Z;rcases Z with Z|⟨c,o,k1,k2,k3,k4⟩
   ·exact .inl Z
   ·refine .inr ⟨c,o,k1,k2,?_,k4⟩
    cases e:H c with
    |none=>rfl
    |some x=>
     have v:=g2 _ _ e
     rw[k4] at v
     injection v with v
     subst v
     have h6:H.qb c=_:=ie e (by simp)
     rw[h6] at k3;cases k3
  have m2:W≠M:=λe=>by rw[e,hD] at N;cases N
  have m3:X≠M:=λe=>by rw[e,hD] at F;cases F
  have m4:b4≠M:=λe=>by rw[e,hD] at G;cases G
  have q:=a.cells;simp only[D.cells] at q;have r3:∀x,(aA.aU Hc W x) X=some (.row 48 0 1 [[i64 0]]):=λx=>(aJ S).trans F;refine tq (ej f2 f3 f4 N G q r3) ?_;intro U Y O C;refine aB _ _ (.inr rfl) ?_ ?_
  ·refine eG f2 ?_
   refine Ql ?_;rw[aJ (Ne.symm m3),aJ (Ne.symm m2)];exact hD
  ·refine eG f2 ?_
   rw[sP];simp (maxSteps:=4000000) only[vX,vB,vT,vZ,ij,fh,Fp,yk,AX,gV,fE,fj,↓iR,yb,cU,DJ,ze,By,oi,od,pn,po,ki,j8,kh,ic,D.nilPtr,D.iM,D.iF,fH,Bj,CE,wX,gy,jw,fieldsOf,gU,B6,B7,B8,B9,sL,BT,D.cells,jx,DE,DB,pv,eK,eH,B3,BR,jd,EC,rS,Be,gP,TD.gX,TD.agg,Eo,rU,oe,FI,nZ,pY,pX,Ba,B5,mF,pZ,dR,eT,Value.oneCell',iX,iV,gp,reduceCtorEq,kY,iZ,dN,dY,↓reduceIte,Nat.reduceEqDiff,Int.reduceLE,Int.reduceLT,Int.reduceNeg,Int.reduceToNat,Nat.reduceAdd,Nat.reduceMul,Nat.reduceLeDiff,Nat.reduceMod,Nat.reduceSub,Int.reduceEq,Int.reduceNe,Int.reduceAdd,Int.reduceSub,Int.reduceMul,iW,cR,cO,cE,au,cF,fW,cp,eU,fK,fL,fQ,fR,fP,i64,f2,f3,i64,aJ m2,aJ m3,aJ (Ne.symm S)];have hk:∀c,ob=some c->c≠M:=λc h e=>by
    rcases a with a|⟨c',o',k1,_,_,k4⟩
    ·rw[a.1] at h;cases h
    ·rw[k1] at h;injection h with h;rw[h,e,hD] at k4;cases k4
   have I:=λx y z=>aQ (x:=z) (aQ (x:=y) (aQ (x:=x) g2 w) g) (iY J (by rw[<-R];exact am));exact⟨_,aF _,I _ _ _,_,lI (HP (da (I _ _ _) (a.cM λc h=>by rw[aJ (hk c h),aJ (λe=>V (by rw[h,e])),aJ (λe=>T (by rw[h,e]))])) (aL (I _ _ _))),rfl⟩
 ·exact λ_ _ _ _ _ _ h=>h.elim
end Go.Proofs.YtffgfafbffdgaaaGreatDoor
