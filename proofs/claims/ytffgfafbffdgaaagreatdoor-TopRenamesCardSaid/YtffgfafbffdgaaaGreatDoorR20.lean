/- Lemmas and contracts of functions, several texts in one. -/
import Derived.Test.YtffgfafbffdgaaaGreatDoorR19
import Derived.WideKeyPair
set_option maxRecDepth 100000
set_option maxHeartbeats 4000000
set_option linter.all false
namespace Go.Proofs.YtffgfafbffdgaaaGreatDoor
open Go.RowKit
open Tryz
variable {b x a:Int}{S:List Int}
theorem lX {H:aA}{b:Nat}{x:cY}(h:H b=some x):H.aU b x=H:=by
 funext c;by_cases e:c=b
 ·rw[e,aK,h]
 ·rw[aJ e]
def BX (x:Int):Prop:= -9223372036854775808<=x/\x<=9223372036854775807
def SV (S:List Int):List (Value×Value):=S.map λk=>(.int .i64 k,.bool true)
def SM (S:List Int):List (Value×D):=(SV S).map λp=>(p.1,.val p.2)
theorem uv (a:Int)(S:List Int):SM (a::S)=(.int .i64 a,.val (.bool true))::SM S:=rfl
theorem Mb:x∈S->iC (SM S) (.int .i64 x)=some (.val (.bool true)):=by
 induction S with
 |nil=>intro h;cases h
 |cons a S f=>
  intro h
  rw[uv]
  by_cases e:a=x
  ·subst e;simp [iC]
  ·have c:x∈S:=by rcases bV.1 h with h|h;exact absurd h.symm e;exact h
   simp only[iC]
   rw[aC (by simpa using e)]
   exact f c
theorem Gs:x∉S->iC (SM S) (.int .i64 x)=none:=by
 induction S with
 |nil=>intro _;rfl
 |cons a S f=>
  intro h
  rw[uv]
  have e:¬a=x:=λe=>h (by simp [e])
  simp only[iC]
  rw[aC (by simpa using e)]
  exact f λc=>h (dH _ c)
theorem Cv:x∉S->eJ (SM S) (.int .i64 x) (.val (.bool true))=SM (S++[x]):=by
 induction S with
 |nil=>intro _;rfl
 |cons a S f=>
  intro h
  rw[dJ,uv,uv]
  have e:¬a=x:=λe=>h (by simp [e])
  simp only[eJ]
  rw[aC (by simpa using e),f λc=>h (dH _ c)]
theorem U4 {n:Int}(hn:n<=1000000)(h:∀x∈S,bN n x)(hx:BX x):SP prog 3 (SM S) (.int .i64 x):=
 ⟨Go.Maps.int_keyed underlying3,kn underlying3 hx,λp c=>by
  unfold SM SV at c;rw[gL,cD] at c;obtain⟨y,e,rfl⟩:=c;have:=h y e;exact kn underlying3 (by unfold bN at this;omega)⟩
theorem iv (H:aA)(b:Nat)(x y:cY):(H.aU b x).aU b y=H.aU b y:=by
 funext c;by_cases e:c=b
 ·rw[e,aK,aK]
 ·rw[aJ e,aJ e,aJ e]
theorem WC (ts:List bp)(f c:Nat)(x:Int)(b:Bool)(H:aA)(K:aA->Prop)(e:H c=some (.row 349 0 1 [[.fn 286 [.rp [.seq 5 (ts.map bS)],.rp [.val (.map (some f))],.ep c 0 1 0 0]]]))(h:aN prog 286 [i64 x,.rp [.seq 5 (ts.map bS)],.rp [.val (.map (some f))],.ep c 0 1 0 0] H λd H'=>d=.val (.bool b)/\K H'):
  aN prog 288 [i64 x,.ep c 0 1 0 0] H λd H'=>d=.val (.bool (!b))/\K H':=by
 refine dO func288 ntmps288 results288 λl k Q i=>?_;refine tq e ?_;intro U Y O C;refine h.mono ?_;rintro d j ⟨rfl,g⟩;refine u0 i ?_;exact⟨_,aF _,by first|exact g|exact⟨rfl,g⟩⟩
theorem W4 (ts:List bp)(c f:Nat)(l:List Int)(G:List Int->Prop)(k:aA)(v:c≠f)(hl:l.length<=140737488351232)(hf:k f=some (.row 349 0 1 [[.fn 286 [.rp [.seq 5 (ts.map bS)],.rp [.val (.map (some c))],.ep f 0 1 0 0]]]))
  (hc:∀x∈l,∀S,G S->aN prog 286 [i64 x,.rp [.seq 5 (ts.map bS)],.rp [.val (.map (some c))],.ep f 0 1 0 0] (k.aU c (.map (SM S))) λd H'=>d=.val (.bool (jD ts x))/\∃g,H'=(k.aU c (.map (SM S))).aU c (.map (SM g))/\(jD ts x=true->G g))
  (J:List Int) (N:G J):
  aN prog 339 [.seq 1 (l.map iD),.fn 288 [.ep f 0 1 0 0]] (k.aU c (.map (SM J))) λd H'=>∃r g,d=i64 r/\H'=k.aU c (.map (SM g))/\((0<=r/\∃x∈l,jD ts x=false)\/(r= -1/\(∀x∈l,jD ts x=true)/\G g)):=by
 have p:=lm iD l;refine dO func339 ntmps339 results339 λw0 V Q K=>?_;refine tn p ?_;refine aO l.length (λi s=>s.df=[]/\s.fr 0=.seq 1 (l.map iD)/\s.fr 1=.fn 288 [.ep f 0 1 0 0]/\s.fr 7=i64 l.length/\s.fr 8=i64 i/\(∃S,s.H=k.aU c (.map (SM S))/\G S)/\∀x∈l.take i,jD ts x=true) ⟨rfl,rfl,rfl,rfl,rfl,⟨_,rfl,N⟩,by simp⟩ ?_;rintro i s Z ⟨j,L,M,w,u,⟨S,z,n⟩,h⟩;have hx:=aX i;have y:=aZ i;by_cases e:i<l.length
 case neg=>
  have I:=lF i l.length;rw[bK (by omega)] at h;refine ur K (bQ w u I) j ?_;exact⟨_,aF _,-1,S,rfl,z,.inr ⟨rfl,h,n⟩⟩
 have I:=lT i l.length;have R:=wS i;have E:(l.map iD)[i]?=some (iD l[i]):=by rw[bg,az e];rfl
 have t:l[i]∈l:=ao e;have A:s.H f=some (.row 349 0 1 [[.fn 286 [.rp [.seq 5 (ts.map bS)],.rp [.val (.map (some c))],.ep f 0 1 0 0]]]):=by rw[z,aJ (Ne.symm v)];exact hf
 have P:=WC ts c f l[i] _ s.H _ A (by rw[z];exact hc l[i] t S n);refine tq (bG L M w u p I E (bQ hx y e)) ?_;intro U Y O C;refine P.mono ?_;rintro d T ⟨rfl,g,o,B⟩;rw[iv] at o;subst o;by_cases m:jD ts l[i]=true
 ·rw[m]
  refine tq (av u R) ?_;intro U Y O C;refine⟨e,j,L,M,w,rfl,⟨g,rfl,B m⟩,λx hx=>?_⟩;rw[bw e] at hx;rcases bB.1 hx with hx|hx
  ·exact h x hx
  ·rw[bM] at hx;rw[hx];exact m
 ·rw[Bool.not_eq_true] at m
  rw[m];refine ur K u j ?_;exact⟨_,aF _,i,g,rfl,rfl,.inl ⟨by omega,l[i],t,m⟩⟩
theorem Rj (l:List Int)(f:D)(H:aA)(K:Int->aA->Prop)(h:aN prog 339 [.seq 1 (l.map iD),f] H λd H'=>∃r,d=i64 r/\K r H'):
  aN prog 287 [.seq 1 (l.map iD),f] H λd H'=>∃r,d=.val (.bool (decide (0<=r)))/\K r H':=by
 refine dO func287 ntmps287 results287 λj i Q c=>?_;refine t0 ?_;intro U Y O C;refine h.mono ?_;rintro d g ⟨r,rfl,e⟩;refine u0 c ?_;exact⟨_,aF _,r,rfl,e⟩
theorem WB (ts:List bp)(o B:Nat)(hw:pI ts)(hr:rfN ts)(a8:ts.length<=1000000)(a3:∀t∈ts,t.ar.length<=140737488351232)(A:o≠B):
  ∀(R:Nat) (a:Int) (S:List Int) (H:aA),bN ts.length a->a<R->H B=some (.row 349 0 1 [[.fn 286 [.rp [.seq 5 (ts.map bS)],.rp [.val (.map (some o))],.ep B 0 1 0 0]]])->H o=some (.map (SM S))->(∀x∈S,bN ts.length x)->(∀k∈S,k<=a->Qk ts k)->
   aN prog 286 [i64 a,.rp [.seq 5 (ts.map bS)],.rp [.val (.map (some o))],.ep B 0 1 0 0] H λd H'=>d=.val (.bool (jD ts a))/\∃c,H'=H.aU o (.map (SM c))/\(jD ts a=true->(∀x∈c,bN ts.length x)/\∀x∈c,x∈S\/Qk ts x):=by
 intro R
 induction R using Nat.strongRecOn with
 |ind R ih=>
  intro a S H l a5 G g u L
  have m:=lm bS ts
  have a2:BX a:=by unfold bN at l;unfold BX;omega
  have J:=U4 (by omega) u a2
  have f:=gY l
  have i:=Ip hw l
  have I:=Dn.F hw a l
  have K:(bY ts a).ar.length<=140737488351232:=a3 _ (ni l)
  have N:=hr _ (ni l)
  obtain⟨t,ht⟩:=oX (bY ts a)
  unfold TP at I
  rw[<-ht] at f I K i N
  obtain⟨j,tm,tr,te,V⟩:=t
  simp only[bS] at f
  have s:0<=a:=l.1
  have v:a.toNat<ts.length:=by unfold bN at l;omega
  have n:a<(ts.length:Int):=l.2
  refine dO func286 ntmps286 results286 λw0 g0 Q P=>?_
  by_cases E:j=3
  ·have T:(j=3)=True:=aG E
   have e:jD ts a= !tm:=by
    cases tm with
    |true=>exact pV.2 λh=>(i.1 h).1 ⟨E,rfl⟩
    |false=>exact sC.2 (i.2 ⟨(λh=>by cases h.2),by rw[N E];simp⟩)
   refine ur P (eP f s v n m T) trivial ?_
   exact⟨_,aF _,by rw[e],S,(lX g).symm,λ_=>⟨u,λx hx=>.inl hx⟩⟩
  have T:(j=3)=False:=aI E
  by_cases w:a∈S
  ·have z:=Mb w
   refine tq (bG f s v n m T g z) ?_;intro U Y O C
   refine⟨J,?_⟩
   refine u0 P ?_
   exact⟨_,aF _,by rw[sC.2 (L a w (kJ _))],S,(lX g).symm,λ_=>⟨u,λx hx=>.inl hx⟩⟩
  have z:=Gs w
  have a1:=Cv w
  refine tq (bG f s v n m T g z) ?_;intro U Y O C
  refine⟨J,?_⟩
  refine tq (av g z) ?_;intro U Y O C
  refine⟨J,?_⟩
  rw[a1]
  refine tq (cw f s v n m) ?_;intro U Y O C
  have a6:(H.aU o (.map (SM (S++[a])))) B=some (.row 349 0 1 [[.fn 286 [.rp [.seq 5 (ts.map bS)],.rp [.val (.map (some o))],.ep B 0 1 0 0]]]):=by rw[aJ (Ne.symm A)];exact G
  refine(Rj V _ _ (λr H'=>∃c,H'=H.aU o (.map (SM c))/\((0<=r/\∃x∈V,jD ts x=false)\/(r= -1/\(∀x∈V,jD ts x=true)/\((∀x∈c,bN ts.length x)/\∀x∈c,x∈S\/x=a\/Qk ts x)))) ((W4 ts o B V (λc=>(∀x∈c,bN ts.length x)/\∀x∈c,x∈S\/x=a\/Qk ts x) H A K G (λx hx S1 hG=>?_) (S++[a]) ⟨?_,?_⟩).mono λd H' ⟨r,c,h1,h2,E⟩=>⟨r,h1,c,h2,E⟩)).mono ?_
  ·have a9:=I x hx
   refine(ih (x+1).toNat (by omega) x S1 _ ⟨by omega,by omega⟩ (by omega) (by rw[aJ (Ne.symm A)];exact G) (aK _ _ _) hG.1 λk hk a7=>?_).mono ?_
   ·rcases hG.2 k hk with h|h|h
    ·exact L k h (by omega)
    ·omega
    ·exact h
   ·rintro d H' ⟨h1,c,h2,h4⟩
    refine⟨h1,c,h2,λhc=>⟨(h4 hc).1,λy hy=>?_⟩⟩
    rcases(h4 hc).2 y hy with h|h
    ·exact hG.2 y h
    ·exact .inr (.inr h)
  ·intro x hx
   rcases bB.1 hx with hx|hx
   ·exact u x hx
   ·rw[bM] at hx;rw[hx];exact l
  ·intro x hx
   rcases bB.1 hx with hx|hx
   ·exact .inl hx
   ·rw[bM] at hx;exact .inr (.inl hx)
  rintro d _ ⟨r,rfl,c,rfl,Z⟩
  rcases Z with⟨h0,x,hx,a4⟩|⟨rfl,a0,hi,hm⟩
  ·have q0:(0<=r)=True:=aG h0
   have e:jD ts a=false:=pV.2 λh=>pV.1 a4 ((i.1 h).2 x hx)
   refine ur P q0 trivial ?_
   exact⟨_,aF _,by simp [e],c,rfl,λh=>by rw[e] at h;cases h⟩
  ·have M:Qk ts a:=i.2 ⟨λh=>E h.1,λp hp=>sC.1 (a0 p hp)⟩
   have e:jD ts a=true:=sC.2 M
   refine u0 P ?_
   exact⟨_,aF _,by simp [e],c,rfl,λ_=>⟨hi,λx hx=>by
    rcases hm x hx with h|h|h
    ·exact .inl h
    ·rw[h];exact .inr M
    ·exact .inr h⟩⟩
theorem Y4 (ts:List bp)(a:Int)(H:aA)(L:pI ts)(hr:rfN ts)(y:ts.length<=1000000)(u:∀t∈ts,t.ar.length<=140737488351232):
  aN prog 211 [.seq 5 (ts.map bS),i64 a] H λd H'=>d=.val (.bool (jD ts a))/\H=H':=by
 refine aq (K:=λd=>d=.val (.bool (jD ts a))) ?_;have f:=lm bS ts;have E:=aF H;refine dO func211 ntmps211 results211 λP N Q o=>?_;refine t0 ?_;intro U Y O C;intro M w;refine Y _ ?_;refine cm 2 w ?_;by_cases I:0<=a
 case neg=>
  have g:jD ts a=false:=pV.2 λh=>I h.1.1;have n:=nT (a<0);refine ur o (av f n) trivial ?_;exact zf E (by rw[g])
 have n:=nF (a<0);by_cases J:a<ts.length
 case neg=>
  have g:jD ts a=false:=pV.2 λh=>J h.1.2;have B:=nT ((ts.length:Int)<=a);refine ur o (bQ n B f) trivial ?_;exact zf E (by rw[g])
 have B:=nF ((ts.length:Int)<=a);refine tq (bQ n B f) ?_;intro U Y O C;intro c l m v;have s:(H.aU c (.map [])) m=none:=v;refine Y _ ?_;refine dZ 5 rfl (aK _ _ _) rfl ?_;refine lB (H.aU c (.map [])) (λx z A=>?_) ?_
 ·have G:x≠m:=λe=>by rw[e,s] at A;cases A
  show(((H.aU c _).aU m _).del m) x=_;rw[bL G,aJ G];exact A
 simp only[St.ku,List.drop];refine t0 ?_;intro U Y O C;intro j k;have i:c≠j:=lj (aK _ _ _) k;have p:H j=none:=(bF.1 k).2;refine Y _ ?_;refine t0 ?_;intro U Y O C;refine(WB ts c j L hr y u i ts.length a [] _ ⟨by omega,by omega⟩ (by omega) (aK _ _ _) ((aJ i).trans (aK _ _ _)) (by simp) (by simp)).mono ?_;rintro d _ ⟨rfl,S,rfl,_⟩;refine u0 o ?_;have r:H.le (((H.aU c (.map [])).aU j (.row 349 0 1 [[.fn 286 [.rp [.seq 5 (ts.map bS)],.rp [.val (.map (some c))],.ep j 0 1 0 0]]])).aU c (.map (SM S))):=aQ (aQ (aQ (aF _) l) p) l;exact zf r rfl
def pk (a b:Int):Value:=.agg #[.int .i64 a,.int .i64 b]
theorem Ad:Go.WideMaps.ArrKey prog 60 3 2:=⟨underlying60,by kernel_rfl,by kernel_rfl,by kernel_rfl⟩
theorem ID:∃m,(prog).types.size=m+1:=⟨(prog).types.size - 1,by kernel_rfl⟩
theorem Q6 (h: -9223372036854775808<=a/\a<=9223372036854775807):(Lit.int .i64 a).wf=true:=by simp [Lit.wf,IntKind.min,IntKind.max,IntKind.signed,IntKind.bits];omega
theorem v8 (ha:du a)(hb:du b):∃l,keyOf prog 60 (pk a b)=some l:=
 ⟨_,Go.WideMaps.keyOf_pair Ad underlying3 ID (Q6 ha) (Q6 hb)⟩
structure wh (M:List (Value×D)) (f:Int->Int->Bool):Prop where
 keys:∀p∈M,∃a b,du a/\du b/\p.1=pk a b
 val:∀a b d,iC M (pk a b)=some d->d=.val (.bool (f a b))
theorem wh.nil (f:Int->Int->Bool):wh [] f:=⟨(λp c=>by cases c),λa b d h=>by cases h⟩
theorem wh.ok {M:List (Value×D)}{f:Int->Int->Bool}(h:wh M f)(ha:du a)(hb:du b):SP prog 60 M (pk a b):=
 ⟨Go.Maps.Keyed.of_law Ad.law,v8 ha hb,λp c=>by obtain⟨x,y,g,i,e⟩:=h.keys p c;rw[e];exact v8 g i⟩
theorem wh.set {M:List (Value×D)}{f:Int->Int->Bool}(h:wh M f)(ha:du a)(hb:du b):wh (eJ M (pk a b) (.val (.bool (f a b)))) f where
 keys:=λp hp=>by
  rcases vf hp with rfl|hp
  ·exact⟨a,b,ha,hb,rfl⟩
  ·exact h.keys p hp
 val:=λx y d hd=>by
  by_cases e:pk a b=pk x y
  ·have e':a=x/\b=y:=by simpa [pk] using e
   obtain⟨rfl,rfl⟩:=e';rw[jJ] at hd;injection hd with hd
   exact hd.symm
  ·rw[n9 _ _ e] at hd
   exact h.val x y d hd
theorem Gy {e:Type}{p:e->Bool}{l:List e}{i:Nat}(h:(l.take i).all p=false):l.all p=false:=by
 rw[Bool.eq_false_iff] at h ⊢;intro c;apply h;rw[dK] at c ⊢;exact λx f=>c x (rC f)
theorem vl {l:List (Int×Int)}{c e f:Nat}{H:aA}{x:cY}(k:oc l c e H)(h1:f≠c)(h2:f≠e):oc l c e (H.aU f x):=by
 obtain⟨m,n,g,h,i,j⟩:=k;exact⟨m,n,(aJ h1.symm).trans g,h,(aJ h2.symm).trans i,j⟩
theorem X0 (l:List (Int×Int))(n:Int)(ts:List bp)(b1 b2 m Z:Nat)(hw:pI ts)(c5:∀p∈l,bN n p.1/\bN n p.2)(hn:n<=1000000)(hl:l.length<=1000000)(cc:ts.length<=1000000)(c1:∀t∈ts,t.ar.length<=140737488351232)(b3:m≠b1)(b5:m≠b2)(aw:m≠Z):
  ∀(kk:Nat) (a b:Int) (M:List (Value×D)) (H:aA),bN ts.length a->bN ts.length b->a<kk->b<kk->oc l b1 b2 H->H Z=some (.row 310 0 1 [[.fn 340 [.rp [.val (.map (some m))],.rp [.seq 5 (ts.map bS)],.rp [fJ n b1 b2],.ep Z 0 1 0 0]]])->H m=some (.map M)->wh M (ky l n ts)->
   aN prog 340 [i64 a,i64 b,.rp [.val (.map (some m))],.rp [.seq 5 (ts.map bS)],.rp [fJ n b1 b2],.ep Z 0 1 0 0] H λd H'=>d=.val (.bool (ky l n ts a b))/\∃M',H'=H.aU m (.map M')/\wh M' (ky l n ts):=by
 intro kk
 induction kk using Nat.strongRecOn with
 |ind kk ih=>
  intro a b M H ha hb c8 c9 hR a5 a1 hM
  have be:=lm bS ts
  have a2:du a:=by unfold bN at ha;unfold du;omega
  have a3:du b:=by unfold bN at hb;unfold du;omega
  have ak:=hM.ok a2 a3
  have a4:H.aU m (.map M)=H:=by
   funext x;by_cases e:x=m
   ·rw[e,aK,a1]
   ·rw[aJ e]
  refine dO func340 ntmps340 results340 λw0 g0 Q aB=>?_
  simp only[pk] at ak
  cases hmg:iC M (pk a b) with
  |some d=>
   have hv:=hM.val a b d hmg
   subst hv
   simp only[pk] at hmg
   refine tq (av a1 hmg) ?_;intro U Y O C
   refine⟨ak,?_⟩
   refine u0 aB ?_
   exact⟨_,aF _,M,a4.symm,hM⟩
  |none=>
   simp only[pk] at hmg
   refine tq (av a1 hmg) ?_;intro U Y O C
   refine⟨ak,?_⟩
   have ae:=gY ha
   have ag:=gY hb
   have wa:=qx hw ha
   have wb:=qx hw hb
   have ap:(bY ts a).ar.length<=140737488351232:=by obtain⟨h',he⟩:=qM ha;rw[he];exact c1 _ (ao h')
   have R:=Jv (l:=l) (n:=n) hw ha hb
   obtain⟨t,ht⟩:=oX (bY ts a)
   obtain⟨u,hu⟩:=oX (bY ts b)
   rw[<-ht] at ae R wa ap
   rw[<-hu] at ag R wb
   obtain⟨f,tm,tr,te,k⟩:=t
   obtain⟨uk,um,o,ue,r⟩:=u
   simp only[bS] at ae ag R wa wb ap
   have br:0<=a:=ha.1
   have bs:0<=b:=hb.1
   have c0:a.toNat<ts.length:=by unfold bN at ha;omega
   have c2:b.toNat<ts.length:=by unfold bN at hb;omega
   have bi:a<(ts.length:Int):=ha.2
   have bk:b<(ts.length:Int):=hb.2
   refine tq (av a1 hmg) ?_;intro U Y O C
   refine wE (λt=>t==some 24||t==some 26||t==some 27||t==some 28||t==some 30||t==some 31) (λ_=>false) (λ_ _ _ _=>False) (λ_ _ _ _ _=>False) λU Y=>?_;have fs:=And.intro be (And.intro ae (And.intro ag (And.intro br (And.intro bs (And.intro c0 (And.intro c2 (And.intro bi bk)))))));refine uj ?_;refine nx ?_;(try clear fs)
   intro V bl I b4
   have a7:V≠I:=lj (aK _ _ _) b4
   have bo:H I=none:=(bF.1 b4).2
   simp only[aJ a7,aJ a7.symm,aK,lk,List.set_cons_zero,List.drop]
   refine⟨trivial,trivial,by decide,trivial,trivial,by decide,Y _ ?_⟩
   refine dZ 11 rfl ((aJ a7).trans (aK _ _ _)) rfl ?_
   refine dZ 12 rfl ((bL a7.symm).trans (aK _ _ _)) rfl ?_
   refine lB H (λx z hz=>?_) ?_
   ·have e1:x≠V:=λe=>by rw[e,bl] at hz;cases hz
    have e2:x≠I:=λe=>by rw[e,bo] at hz;cases hz
    show((((((H.aU V _).aU I _).aU V _).aU I _).del V).del I) x=_
    rw[bL e2,bL e1,aJ e2,aJ e1,aJ e2,aJ e1]
    exact hz
   obtain⟨P1,w⟩:=oX ((decide (f=uk)&&(decide (tm=um)&&decide (k.length=r.length))))
   obtain⟨Kp,h⟩:=oX ((if f=3 then gh l n tr o&&(ky l n ts te ue&&(!tm||ky l n ts ue te)) else true))
   rw[<-h] at R
   have b6:ky l n ts a b=((P1&&Kp)&&(k.zip r).all λp=>ky l n ts p.1 p.2):=by rw[R,w];simp only[Bool.and_assoc]
   have K:=lm iD k
   have al:=lm iD r
   refine Ic (λs=>s.df=[]/\s.fr 0=i64 a/\s.fr 1=i64 b/\s.fr 2=.rp [.val (.map (some m))]/\s.fr 3=.rp [.seq 5 (ts.map bS)]/\s.fr 4=.rp [fJ n b1 b2]/\s.fr 5=.ep Z 0 1 0 0/\s.fr 9=.val (.bool P1)/\s.fr 11=.rp [i64 f,.val (.bool tm),i64 tr,i64 te,.seq 1 (k.map iD)]/\s.fr 12=.rp [i64 uk,.val (.bool um),i64 o,i64 ue,.seq 1 (r.map iD)]/\s.H=H) ?_ ?_
   ·simp only[St.ku,List.drop]
    by_cases g1:f=uk
    case neg=>
     have q1:(f=uk)=False:=aI g1;refine tn q1 ?_;exact⟨rfl,rfl,rfl,rfl,rfl,rfl,rfl,by rw[w,af g1] <;> rfl,rfl,rfl,rfl⟩
    have q1:(f=uk)=True:=aG g1
    by_cases g2:tm=um
    case neg=>
     have q2:(tm=um)=False:=aI g2;refine tn (av q1 q2) ?_;exact⟨rfl,rfl,rfl,rfl,rfl,rfl,rfl,by rw[w,ah g1,af g2] <;> rfl,rfl,rfl,rfl⟩
    have q2:(tm=um)=True:=aG g2
    by_cases g3:k.length=r.length
    ·have q3:=nT ((k.length:Int)=(r.length:Int))
     refine tn (cw q1 q2 q3 K al) ?_
     exact⟨rfl,rfl,rfl,rfl,rfl,rfl,rfl,by rw[w,ah g1,ah g2,ah g3] <;> rfl,rfl,rfl,rfl⟩
    ·have q3:=nF ((k.length:Int)=(r.length:Int))
     refine tn (cw q1 q2 q3 K al) ?_
     exact⟨rfl,rfl,rfl,rfl,rfl,rfl,rfl,by rw[w,ah g1,ah g2,af g3] <;> rfl,rfl,rfl,rfl⟩
   rintro s ⟨A,L,N,P,f3,f4,B,j,c,g,hH⟩
   refine Ic (λs=>s.df=[]/\s.fr 0=i64 a/\s.fr 1=i64 b/\s.fr 2=.rp [.val (.map (some m))]/\s.fr 3=.rp [.seq 5 (ts.map bS)]/\s.fr 4=.rp [fJ n b1 b2]/\s.fr 5=.ep Z 0 1 0 0/\s.fr 9=.val (.bool (P1&&Kp))/\s.fr 11=.rp [i64 f,.val (.bool tm),i64 tr,i64 te,.seq 1 (k.map iD)]/\s.fr 12=.rp [i64 uk,.val (.bool um),i64 o,i64 ue,.seq 1 (r.map iD)]/\∃M,s.H=H.aU m (.map M)/\wh M (ky l n ts)) ?_ ?_
   ·cases hp1:P1 with
    |false=>
     rw[hp1] at j
     refine tn (av j c) ?_
     exact⟨A,L,N,P,f3,f4,B,j,c,g,M,hH.trans a4.symm,hM⟩
    |true=>
     rw[hp1] at j w
     have g1:f=uk:=by
      have:=w.symm;simp only[cX,dF] at this;exact this.1
     by_cases h5:f=3
     case neg=>
      have q5:(f=3)=False:=aI h5;rw[aC h5] at h;refine tn (bQ j c q5) ?_;exact⟨A,L,N,P,f3,f4,B,by rw[h];exact j,c,g,M,hH.trans a4.symm,hM⟩
     have q5:(f=3)=True:=aG h5
     rw[aD h5] at h
     have c3:=wa.1 h5
     have c4:=wb.1 (g1▸h5)
     have b9:bN ts.length te:=⟨c3.1,by omega⟩
     have J:bN ts.length ue:=⟨c4.1,by omega⟩
     refine tq (eP f4 j c g q5 hH) ?_;intro U Y O C
     refine(PR l n tr o b1 b2 H hR c5 hn hl).q ?_
     cases ho:gh l n tr o with
     |false=>
      rw[ho,dq] at h
      refine tn (bQ j c g) ?_
      exact⟨A,L,N,P,f3,f4,B,by rw[h] <;> rfl,c,g,M,a4.symm,hM⟩
     |true=>
      rw[ho,cV] at h
      refine tq (cw B j c g a5) ?_;intro U Y O C
      refine(ih (kk - 1) (by omega) te ue M H b9 J (by omega) (by omega) hR a5 a1 hM).mono ?_
      rintro d _ ⟨rfl,M2,rfl,v⟩
      cases hs1:ky l n ts te ue with
      |false=>
       rw[hs1,dq] at h
       refine tn (cA B j c g) ?_
       exact⟨A,L,N,P,f3,f4,B,by rw[h] <;> rfl,c,g,M2,rfl,v⟩
      |true=>
       rw[hs1,cV] at h
       by_cases tY:tm=true
       case neg=>
        have a9:tm=false:=by simpa using tY
        rw[a9] at h;rw[a9] at c;refine tn (cA B j c g) ?_;exact⟨A,L,N,P,f3,f4,B,by rw[h] <;> rfl,by rw[a9];exact c,g,M2,rfl,v⟩
       rw[tY] at h
       rw[tY] at c
       have T:(H.aU m (.map M2)) Z=some (.row 310 0 1 [[.fn 340 [.rp [.val (.map (some m))],.rp [.seq 5 (ts.map bS)],.rp [fJ n b1 b2],.ep Z 0 1 0 0]]]):=(aJ aw.symm).trans a5
       refine tq (cw B j c g T) ?_;intro U Y O C
       refine(ih (kk - 1) (by omega) ue te M2 _ J b9 (by omega) (by omega) (vl hR b3 b5) T (aK _ _ _) v).mono ?_
       rintro d _ ⟨rfl,M3,rfl,ad⟩
       refine tn (cA B j c g) ?_
       exact⟨A,L,N,P,f3,f4,B,by rw[h] <;> rfl,by rw[tY];exact c,g,M3,rfl,ad⟩
   rintro s ⟨A,L,N,P,f3,f4,B,j,c,g,bt⟩
   refine tz ?_
   refine aO k.length (λi s=>s.df=[]/\s.fr 0=i64 a/\s.fr 1=i64 b/\s.fr 2=.rp [.val (.map (some m))]/\s.fr 3=.rp [.seq 5 (ts.map bS)]/\s.fr 4=.rp [fJ n b1 b2]/\s.fr 5=.ep Z 0 1 0 0/\s.fr 9=.val (.bool ((P1&&Kp)&&((k.zip r).take i).all λp=>ky l n ts p.1 p.2))/\s.fr 11=.rp [i64 f,.val (.bool tm),i64 tr,i64 te,.seq 1 (k.map iD)]/\s.fr 12=.rp [i64 uk,.val (.bool um),i64 o,i64 ue,.seq 1 (r.map iD)]/\s.fr 13=i64 i/\∃M,s.H=H.aU m (.map M)/\wh M (ky l n ts)) ⟨A,L,N,P,f3,f4,B,by rw[gK,lh,fu];exact j,c,g,rfl,bt⟩ ?_
   rintro i s2 hi ⟨a8,L,N,P,f3,f4,B,j,c,g,a0,M2,ac,v⟩
   have hx:=aX i
   have bq:=aZ i
   have ab:=v.ok a2 a3
   simp only[pk] at ab
   have aa:(H.aU m (.map M2)) m=some (.map M2):=aK _ _ _
   cases hv:((P1&&Kp)&&((k.zip r).take i).all λp=>ky l n ts p.1 p.2) with
   |false=>
    rw[hv] at j
    have E:ky l n ts a b=false:=by
     rw[b6];cases hpk:(P1&&Kp) with
     |false=>rfl
     |true=>rw[hpk,cV] at hv;rw[Gy hv];rfl
    refine tq (bG L N P j c a0 K (bQ ac E aa)) ?_;intro U Y O C;refine⟨ab,?_⟩;refine ur aB j a8 ?_;have G:=v.set a2 a3;rw[E] at G;simp only[pk] at G;exact⟨_,aF _,(by first|rfl|trivial|rw[E]),_,(by first|rfl|exact iv _ _ _ _),G⟩
   |true=>
    rw[hv] at j
    have ba:=hv
    rw[cX] at ba
    have hpk:=ba.1
    rw[cX] at hpk
    have cd:k.length=r.length:=by
     have:=hpk.1;rw[w] at this;simp only[cX,dF] at this;exact this.2.2
    have ce:(k.zip r).length=k.length:=by rw[List.length_zip];omega
    by_cases a6:i<k.length
    case neg=>
     have q4:=lF i k.length;have E:ky l n ts a b=true:=by
      rw[bK (by omega)] at hv;rw[b6,hv]
     refine tq (bG L N P j c a0 K (cA ac E aa q4)) ?_;intro U Y O C;refine⟨ab,?_⟩;refine ur aB j a8 ?_;have G:=v.set a2 a3;rw[E] at G;simp only[pk] at G;exact⟨_,aF _,(by first|rfl|trivial|rw[E]),_,(by first|rfl|exact iv _ _ _ _),G⟩
    have q4:=lT i k.length
    have J:i<r.length:=by omega
    have b7:=bT a6
    have b8:=bT J
    have w3:=wS i
    have c6:=wa.2 k[i] (ao a6)
    have c7:=wb.2 r[i] (ao J)
    have T:(H.aU m (.map M2)) Z=some (.row 310 0 1 [[.fn 340 [.rp [.val (.map (some m))],.rp [.seq 5 (ts.map bS)],.rp [fJ n b1 b2],.ep Z 0 1 0 0]]]):=(aJ aw.symm).trans a5
    have am:=ih (kk - 1) (by omega) k[i] r[i] M2 _ ⟨c6.1,by unfold bN at ha;omega⟩ ⟨c7.1,by unfold bN at hb;omega⟩ (by omega) (by omega) (vl hR b3 b5) T aa v
    have b0:((P1&&Kp)&&((k.zip r).take (i+1)).all λp=>ky l n ts p.1 p.2)=ky l n ts k[i] r[i]:=by
     rw[bw (by omega),wR,<-Bool.and_assoc,hv,cV,List.getElem_zip];simp
    refine tq (cw j c a0 K q4) ?_;intro U Y O C
    obtain⟨x,bb⟩:=oX k[i]
    obtain⟨y,bc⟩:=oX r[i]
    rw[<-bb] at b7
    rw[<-bc] at b8
    rw[<-bb,<-bc] at am b0
    refine wE (λ_=>false) (λt=>decide (t=some 107)) (λ_ _ _ _=>False) (λ_ _ H0 d H'=>d=.val (.bool (ky l n ts x y))/\∃M',H'=H0.aU m (.map M')/\wh M' (ky l n ts)) λU Y=>?_;have fs:=And.intro B (And.intro j (And.intro c (And.intro g (And.intro a0 (And.intro K (And.intro al (And.intro b7 (And.intro b8 (And.intro hx (And.intro bq (And.intro a6 (And.intro J (And.intro ac T)))))))))))));refine uj ?_;refine nx ?_;(try clear fs)
    refine⟨am.mono (λd H' ⟨e1,M',e2,e3⟩=>⟨e1,M',e2.trans (iv _ _ _ _),e3⟩),?_⟩
    rintro d _ ⟨rfl,M3,rfl,ad⟩
    refine Y _ ?_
    refine tn (av a0 w3) ?_
    exact⟨a6,a8,L,N,P,f3,f4,B,by rw[b0] <;> rfl,c,g,rfl,M3,rfl,ad⟩
theorem ZW (l:List (Int×Int))(n:Int)(ts:List bp)(o r:Nat)(H:aA)(hw:pI ts)(a2:∀p∈l,bN n p.1/\bN n p.2)(hn:n<=1000000)(hl:l.length<=1000000)(a3:ts.length<=1000000)(V:∀t∈ts,t.ar.length<=140737488351232)(hR:oc l o r H)(a b:Int):
  aN prog 289 [fJ n o r,.seq 5 (ts.map bS),i64 a,i64 b] H λd H'=>d=.val (.bool (y8 l n ts a b))/\H=H':=by
 refine aq (K:=λd=>d=.val (.bool (y8 l n ts a b))) ?_;have m:=lm bS ts;refine dO func289 ntmps289 results289 λw0 g0 Q L=>?_;refine tq m ?_;intro U Y O C;intro G a1 w A;have B:G≠w:=lj (aK _ _ _) A;have M:H w=none:=(bF.1 A).2;refine Y _ ?_;refine dZ 4 rfl ((aJ B).trans (aK _ _ _)) rfl ?_;refine dZ 5 rfl ((bL B.symm).trans (aK _ _ _)) rfl ?_;refine lB H (λx z j=>?_) ?_
 ·have i:x≠G:=λe=>by rw[e,a1] at j;cases j
  have I:x≠w:=λe=>by rw[e,M] at j;cases j
  show((((H.aU G _).aU w _).del G).del w) x=_;rw[bL I,bL i,aJ I,aJ i];exact j
 simp only[St.ku,List.drop];by_cases h1:min a b<0
 ·have J:(min a b<0)=True:=aG h1
  refine ur L (av @fJ.eq_1 J) trivial ?_;exact⟨_,aF _,aF _,_,aL (aF _),by rw[xU λh=>by have:=h.1.1;have:=h.2.1;omega]⟩
 have J:(min a b<0)=False:=aI h1;by_cases h2:(ts.length:Int)<=max a b
 ·have p2:((ts.length:Int)<=max a b)=True:=aG h2
  refine ur L (cA @fJ.eq_1 J p2 m) trivial ?_;exact⟨_,aF _,aF _,_,aL (aF _),by rw[xU λh=>by have:=h.1.2;have:=h.2.2;omega]⟩
 have p2:((ts.length:Int)<=max a b)=False:=aI h2;have T:bN ts.length a:=⟨by omega,by omega⟩;have Z:bN ts.length b:=⟨by omega,by omega⟩;refine to (cA @fJ.eq_1 J p2 m) ?_;intro U Y O C;intro g c E a0;obtain⟨m1,m2,i,I,P,e4⟩:=hR;have u:g≠o:=λe=>by rw[e,i] at c;cases c
 have v:g≠r:=λe=>by rw[e,P] at c;cases c
 have N:(H.aU g (.map [])) E=none:=a0;refine Y _ ?_;refine dZ 9 rfl (aK _ _ _) rfl ?_;refine lB (H.aU g (.map [])) (λx z j=>?_) ?_
 ·have i:x≠E:=λe=>by rw[e,N] at j;cases j
  show(((H.aU g _).aU E _).del E) x=_;rw[bL i,aJ i];exact j
 simp only[St.ku,List.drop];refine t0 ?_;intro U Y O C;intro k y;refine t0 ?_;intro U Y O C;have s:g≠k:=lj (aK _ _ _) y;have f:H k=none:=(bF.1 y).2;have R:∀x,oc l o r ((H.aU g (.map [])).aU k (.row 310 0 1 x)):=λx=>by
  have f1:k≠o:=λe=>by rw[e,i] at f;cases f
  have f2:k≠r:=λe=>by rw[e,P] at f;cases f
  exact vl (vl ⟨m1,m2,i,I,P,e4⟩ u v) f1 f2
 refine(X0 l n ts o r g k hw a2 hn hl a3 V u v s ts.length a b [] _ T Z (by unfold bN at T;omega) (by unfold bN at Z;omega) (R _) (aK _ _ _) ((aJ s).trans (aK _ _ _)) (wh.nil _)).mono ?_;rintro d _ ⟨rfl,M',rfl,a4⟩;refine u0 L ?_;have aM:H.le (((H.aU g (.map [])).aU k (.row 310 0 1 [[.fn 340 [.rp [.val (.map (some g))],.rp [.seq 5 (ts.map bS)],.rp [fJ n o r],.ep k 0 1 0 0]]])).aU g (.map M')):=aQ (aQ (aQ (aF _) c) f) c;exact zf aM (by rw[BC T Z])
def rz (b:bn) (n:Int) (c e:Nat):List D:=cu b++[fJ n c e]
structure Ck (b:bn):Prop where
 wt:pI b.ty
 rf:rfN b.ty
 wl:Gi b.ty b.lc
 ar:K3 b.ty
 tl:b.ty.length<=1000000
 ol:∀p∈b.ol,bN b.rg.length p.1/\bN b.rg.length p.2
 Qm:b.ol.length<=1000000
 MX:b.rg.length<=1000000
 Xp:cH b.lc.length
 YS:cH b.bl.length
theorem K3.cH {ts:List bp}(h:K3 ts):∀t∈ts,t.ar.length<=140737488351232:=λt c=>by have:=h t c;omega
theorem BQ (p:gR)(H:aA)(hp:cH p.pr.length):aN prog 142 [.agg (ee p)] H λd H'=>d=.val (.bool (dU p))/\H=H':=by
 refine aq (K:=λd=>d=.val (.bool (dU p))) ?_;have i:=aF H;have c:=lm pD p.pr;refine dO func142 ntmps142 results142 λo n Q h=>?_;refine tq @ee.eq_1 ?_;intro U Y O C;intro m j;refine Y _ ?_;refine cm 1 j ?_;by_cases f:p.lo=0
 case neg=>
  have g:(p.lo=0)=False:=aI f;have e:dU p=false:=by unfold dU;rw[af f,dq]
  refine ur h g trivial ?_;exact zf i (by rw[e])
 have g:(p.lo=0)=True:=aG f;by_cases l:p.pr.length=0
 ·have k:=nT ((p.pr.length:Int)=0)
  have e:dU p=true:=by unfold dU;rw[ah f,ah l];rfl
  refine ur h (bQ g k c) trivial ?_;exact zf i (by rw[e])
 ·have k:=nF ((p.pr.length:Int)=0)
  have e:dU p=false:=by unfold dU;rw[af l,fq]
  refine ur h (bQ g k c) trivial ?_;exact zf i (by rw[e])
theorem qA (x:Bool)(H:aA):aN prog 147 [.val (.bool x)] H λd H'=>d=i64 (if x=true then 22 else 0)/\H=H':=by
 refine aq (K:=λd=>d=i64 (if x=true then 22 else 0)) ?_;have e:=aF H;refine dO func147 ntmps147 results147 λg f Q c=>?_;cases x
 ·refine u0 c ?_
  exact zf e rfl
 ·refine u0 c ?_
  exact zf e rfl
def wy:List Int->Int
 |[]=>0
 |e::l=>if e≠0 then e else wy l
theorem JB (l:List Int)(H:aA)(hl:cH l.length):aN prog 136 [.seq 1 (l.map iD)] H λd H'=>d=i64 (wy l)/\H=H':=by
 refine aq (K:=λd=>d=i64 (wy l)) ?_;have k:=lm iD l;unfold cH at hl;refine dO func136 ntmps136 results136 λG B Q w=>?_;refine tn k ?_;refine aO l.length (λi s=>s.df=[]/\s.fr 5=.seq 1 (l.map iD)/\s.fr 6=i64 l.length/\s.fr 7=i64 i/\s.H=H/\wy l=wy (l.drop i)) ⟨rfl,rfl,rfl,rfl,rfl,rfl⟩ ?_;rintro i s E ⟨j,t,o,u,y,g⟩;have z:=aX i;have m:=aZ i;have e:H.le s.H:=by rw[y];exact aF _
 by_cases c:i<l.length
 case neg=>
  have r:=lF i l.length;rw[cb (by omega)] at g;refine ur w (bQ o u r) j ?_;exact⟨_,aF _,e,_,aL e,by rw[g] <;> rfl⟩
 have f:(i:Int)<(l.length:Int):=by omega
 have r:((i:Int)<(l.length:Int))=True:=aG f;have A:=wS i;have n:=bT c;rw[cL c,wy] at g;by_cases p:l[i]=0
 ·have v:(l[i]=0)=True:=aG p
  rw[aC (λh=>h p)] at g;refine tn (bG t o u k r n z (cw m c f v A)) ?_;exact⟨c,j,t,o,rfl,y,g⟩
 ·have v:(l[i]=0)=False:=aI p
  rw[aD p] at g;refine ur w (bG t o u k r n z (cA m c f v)) j ?_;exact⟨_,aF _,e,_,aL e,by rw[g] <;> rfl⟩
theorem ny (b:bn)(n:Int)(i j:Nat)(p:gR)(H:aA)(ck:Ck b)(hp:cH p.pr.length):aN prog 150 [.agg (rz b n i j),.agg (ee p)] H λd H'=>d=.eO [i64 (mB b p).1,i64 (mB b p).2]/\H=H':=by
 refine aq (K:=λd=>d=.eO [i64 (mB b p).1,i64 (mB b p).2]) ?_;have h:=aF H;have f:=QS b.ty b.lc p H ck.wt ck.wl ck.ar hp;simp only[ee] at f;unfold mB;refine dO func150 ntmps150 results150 λo m Q g=>?_;simp only[rz,cu,dJ,cz];refine tq @ee.eq_1 ?_;intro U Y O C;intro k c l e;refine Y _ ?_;refine uB 2 3 c e ?_;refine t0 ?_;intro U Y O C;refine f.q ?_;refine u0 g ?_;exact zf h rfl
theorem C3 (b:bn)(n:Int)(P R:Nat)(o:gq)(H:aA)(ck:Ck b)(hp:yW o):aN prog 146 [.agg (rz b n P R),.agg (db o)] H λd H'=>d=i64 (kx b o)/\H=H':=by
 refine aq (K:=λd=>d=i64 (kx b o)) ?_;have r:=aF H;have z:=ny b n P R o.pl H ck hp;have A:=BQ o.pl H hp;have E:=JL o.pl H hp;have M:=λa=>Y4 b.ty a H ck.wt ck.rf ck.tl ck.ar.cH;have G:=λx=>qA x H;obtain⟨y,c⟩:=oX (kx b o);rw[<-c];unfold kx at c;obtain⟨T,V⟩:=oX (mB b o.pl);rw[<-V] at c z;clear V;obtain⟨k,p,v⟩:=o;simp only at c;simp only[rz,cu,dJ,cz,ee] at z;simp only[ee] at A E;refine dO func146 ntmps146 results146 λw0 g0 Q m=>?_;simp only[rz,cu,dJ,cz];refine tq @db.eq_1 ?_;intro U Y O C;intro Z J c3 L;refine Y _ ?_;refine uB 2 3 J L ?_;by_cases u:k=2
 ·have f:=nF (k=0)
  have g:=nF (k=1);have i:(k=2)=True:=aG u;have j:=nF (k=3);have l:=nF (k=4);rw[aC (by omega)] at c;refine tq (cw f g j l i) ?_;intro U Y O C;refine A.q ?_;cases hz:dU p
  ·have e:y=2:=c.trans (aD (.inr ⟨by omega,hz⟩))
   exact oz m (cw f g i j l) r e
  ·have e:y=0:=c.trans (by rw[aC (by rw[hz];rintro(⟨_,h,_⟩|⟨_,h⟩);exact h u;cases h),aC (by omega),aD (by omega)])
   exact oz m (cw f g i j l) r e
 by_cases u:k=3
 ·have f:=nF (k=0)
  have g:=nF (k=1);have i:=nF (k=2);have j:(k=3)=True:=aG u;have l:=nF (k=4);rw[aC (by omega)] at c;refine tq (cw f g j l i) ?_;intro U Y O C;refine A.q ?_;cases hz:dU p
  ·have e:y=2:=c.trans (aD (.inr ⟨by omega,hz⟩))
   exact oz m (cw f g i j l) r e
  rw[aC (by rw[hz];rintro(⟨_,_,h⟩|⟨_,h⟩);exact h u;cases h)] at c;by_cases s:v=0
  ·have t:(v=0)=True:=aG s
   have e:y=0:=c.trans (by rw[aC (by omega),aD (by omega)]);exact oz m (eP f g i j l t) r e
  have t:(v=0)=False:=aI s;by_cases I:v=1
  ·have N:(v=1)=True:=aG I
   have e:y=0:=c.trans (by rw[aC (by omega),aD (by omega)]);exact oz m (ej f g i j l t N) r e
  ·have N:(v=1)=False:=aI I
   have e:y=3:=c.trans (aD ⟨u,s,I⟩);exact oz m (ej f g i j l t N) r e
 by_cases u:k=4
 ·have f:=nF (k=0)
  have g:=nF (k=1);have i:=nF (k=2);have j:=nF (k=3);have l:(k=4)=True:=aG u;rw[aC (by omega)] at c;by_cases s:v=0
  case neg=>
   have t:(v=0)=False:=aI s;have e:y=2:=c.trans (aD (.inl ⟨s,by omega,by omega⟩));exact oz m (eP f g i j l t) r e
  have t:(v=0)=True:=aG s;refine tq (eP f g i j l t) ?_;intro U Y O C;refine A.q ?_;cases hz:dU p
  ·have e:y=2:=c.trans (aD (.inr ⟨by omega,hz⟩))
   exact oz m (cw f g i j l) r e
  ·have e:y=0:=c.trans (by rw[aC (by rw[hz];rintro(⟨h,_⟩|⟨_,h⟩);exact h s;cases h),aC (by omega),aD (by omega)])
   exact oz m (cw f g i j l) r e
 by_cases u:k=0
 ·have f:(k=0)=True:=aG u
  have g:=nF (k=1);have i:=nF (k=2);have j:=nF (k=3);have l:=nF (k=4);rw[aC (by omega)] at c;by_cases s:v=0
  case neg=>
   have t:(v=0)=False:=aI s;have e:y=2:=c.trans (aD (.inl ⟨s,by omega,by omega⟩));exact oz m (eP f g i j l t) r e
  have t:(v=0)=True:=aG s;rw[aC (by omega),aC (by omega),aC (by omega)] at c;refine tq (eP f g i j l t) ?_;intro U Y O C;refine z.q ?_;by_cases w:T.2=0
  case neg=>
   have B:(T.2=0)=False:=aI w;have e:y=T.2:=c.trans (aD w);exact oz m B r e
  have B:(T.2=0)=True:=aG w;rw[aC (λh=>h w)] at c;refine tq (av f B) ?_;intro U Y O C;refine(M _).q ?_;have e:y=if jD b.ty T.1=false then 22 else 0:=by
   rw[c];cases jD b.ty T.1 <;> simp [u]
  refine t0 ?_;intro U Y O C;refine(G _).q ?_;exact oz m f r e
 by_cases u:k=1
 ·have f:=nF (k=0)
  have g:(k=1)=True:=aG u;have i:=nF (k=2);have j:=nF (k=3);have l:=nF (k=4);rw[aC (by omega)] at c;by_cases s:v=0
  case neg=>
   have t:(v=0)=False:=aI s;have e:y=2:=c.trans (aD (.inl ⟨s,by omega,by omega⟩));exact oz m (eP f g i j l t) r e
  have t:(v=0)=True:=aG s;rw[aC (by omega),aC (by omega),aC (by omega)] at c;refine tq (eP f g i j l t) ?_;intro U Y O C;refine z.q ?_;by_cases w:T.2=0
  case neg=>
   have B:(T.2=0)=False:=aI w;have e:y=T.2:=c.trans (aD w);exact oz m B r e
  have B:(T.2=0)=True:=aG w;rw[aC (λh=>h w)] at c;refine tq (av f B) ?_;intro U Y O C;refine E.q ?_;have e:y=if pC p 0=true then 22 else 0:=by
   rw[c];cases pC p 0 <;> simp [u]
  refine t0 ?_;intro U Y O C;refine(G _).q ?_;exact oz m f r e
 have f:=nF (k=0);have g:=nF (k=1);have i:=nF (k=2);have j:=nF (k=3);have l:=nF (k=4);have e:y=14:=c.trans (aD (by omega));exact oz m (cw f g i j l) r e
end Go.Proofs.YtffgfafbffdgaaaGreatDoor
