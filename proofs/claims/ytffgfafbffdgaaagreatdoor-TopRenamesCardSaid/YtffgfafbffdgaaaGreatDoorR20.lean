/- Lemmas and contracts of functions, several texts in one. -/
import Derived.Test.YtffgfafbffdgaaaGreatDoorR19
import Derived.WideKeyPair
set_option maxRecDepth 100000
set_option maxHeartbeats 4000000
set_option linter.all false
namespace Go.Proofs.YtffgfafbffdgaaaGreatDoor
open Go.RowKit
open Tryz
variable {b x a:Int}{S:List Int}
theorem lX {H:aA}{b:Nat}{x:cY}(h:H b=some x):H.aU b x=H:=by
 funext c;by_cases e:c=b
 ·rw[e,aK,h]
 ·rw[aJ e]
def BX (x:Int):Prop:= -9223372036854775808<=x/\x<=9223372036854775807
def SV (S:List Int):List (Value×Value):=S.map λk=>(.int .i64 k,.bool true)
def SM (S:List Int):List (Value×D):=(SV S).map λp=>(p.1,.val p.2)
theorem uv (a:Int)(S:List Int):SM (a::S)=(.int .i64 a,.val (.bool true))::SM S:=rfl
theorem Mb:x∈S->iC (SM S) (.int .i64 x)=some (.val (.bool true)):=by
 induction S with
 |nil=>intro h;cases h
 |cons a S d=>
  intro h
  rw[uv]
  by_cases e:a=x
  ·subst e;simp [iC]
  ·have c:x∈S:=by rcases bV.1 h with h|h;exact absurd h.symm e;exact h
   simp only[iC]
   rw[aC (by simpa using e)]
   exact d c
theorem Gs:x∉S->iC (SM S) (.int .i64 x)=none:=by
 induction S with
 |nil=>intro _;rfl
 |cons a S d=>
  intro h
  rw[uv]
  have e:¬a=x:=λe=>h (by simp [e])
  simp only[iC]
  rw[aC (by simpa using e)]
  exact d λc=>h (dH _ c)
theorem Cv:x∉S->eJ (SM S) (.int .i64 x) (.val (.bool true))=SM (S++[x]):=by
 induction S with
 |nil=>intro _;rfl
 |cons a S d=>
  intro h
  rw[dJ,uv,uv]
  have e:¬a=x:=λe=>h (by simp [e])
  simp only[eJ]
  rw[aC (by simpa using e),d λc=>h (dH _ c)]
theorem U4 {n:Int}(hn:n<=1000000)(h:∀x∈S,bN n x)(hx:BX x):SP prog 3 (SM S) (.int .i64 x):=
 ⟨Go.Maps.int_keyed underlying3,kn underlying3 hx,λp c=>by
  unfold SM SV at c;rw[gL,cD] at c;obtain⟨y,d,rfl⟩:=c;have:=h y d;exact kn underlying3 (by unfold bN at this;omega)⟩
theorem iv (H:aA)(b:Nat)(x y:cY):(H.aU b x).aU b y=H.aU b y:=by
 funext c;by_cases e:c=b
 ·rw[e,aK,aK]
 ·rw[aJ e,aJ e,aJ e]
theorem WC (ts:List bp)(f c:Nat)(x:Int)(b:Bool)(H:aA)(K:aA->Prop)(e:H c=some (.row 349 0 1 [[.fn 286 [.rp [.seq 5 (ts.map bS)],.rp [.val (.map (some f))],.ep c 0 1 0 0]]]))(h:aN prog 286 [i64 x,.rp [.seq 5 (ts.map bS)],.rp [.val (.map (some f))],.ep c 0 1 0 0] H λd H'=>d=.val (.bool b)/\K H'):
  aN prog 288 [i64 x,.ep c 0 1 0 0] H λd H'=>d=.val (.bool (!b))/\K H':=by
 refine dO func288 ntmps288 results288 λl k Q i=>?_;refine tq e ?_;intro U Y O C;refine h.mono ?_;rintro d j ⟨rfl,g⟩;refine u0 i ?_;exact⟨_,aF _,by first|exact g|exact⟨rfl,g⟩⟩
theorem W4 (ts:List bp)(c f:Nat)(l:List Int)(G:List Int->Prop)(k:aA)(u:c≠f)(hl:l.length<=140737488351232)(hf:k f=some (.row 349 0 1 [[.fn 286 [.rp [.seq 5 (ts.map bS)],.rp [.val (.map (some c))],.ep f 0 1 0 0]]]))
  (hc:∀x∈l,∀S,G S->aN prog 286 [i64 x,.rp [.seq 5 (ts.map bS)],.rp [.val (.map (some c))],.ep f 0 1 0 0] (k.aU c (.map (SM S))) λd H'=>d=.val (.bool (jD ts x))/\∃g,H'=(k.aU c (.map (SM S))).aU c (.map (SM g))/\(jD ts x=true->G g))
  (E:List Int) (K:G E):
  aN prog 339 [.seq 1 (l.map iD),.fn 288 [.ep f 0 1 0 0]] (k.aU c (.map (SM E))) λd H'=>∃r g,d=i64 r/\H'=k.aU c (.map (SM g))/\((0<=r/\∃x∈l,jD ts x=false)\/(r= -1/\(∀x∈l,jD ts x=true)/\G g)):=by
 have p:=lm iD l;refine dO func339 ntmps339 results339 λT P Q F=>?_;refine tn p ?_;refine aO l.length (λi s=>s.df=[]/\s.fr 0=.seq 1 (l.map iD)/\s.fr 1=.fn 288 [.ep f 0 1 0 0]/\s.fr 7=i64 l.length/\s.fr 8=i64 i/\(∃S,s.H=k.aU c (.map (SM S))/\G S)/\∀x∈l.take i,jD ts x=true) ⟨rfl,rfl,rfl,rfl,rfl,⟨_,rfl,K⟩,by simp⟩ ?_;rintro i s R ⟨j,I,J,v,t,⟨S,y,n⟩,h⟩;have hx:=aX i;have w:=aZ i;by_cases e:i<l.length
 case neg=>
  have D:=lF i l.length;rw[bK (by omega)] at h;refine ur F (bQ v t D) j ?_;exact⟨_,aF _,-1,S,rfl,y,.inr ⟨rfl,h,n⟩⟩
 have D:=lT i l.length;have M:=wS i;have B:(l.map iD)[i]?=some (iD l[i]):=by rw[bg,az e];rfl
 have q:l[i]∈l:=ao e;have z:s.H f=some (.row 349 0 1 [[.fn 286 [.rp [.seq 5 (ts.map bS)],.rp [.val (.map (some c))],.ep f 0 1 0 0]]]):=by rw[y,aJ (Ne.symm u)];exact hf
 have L:=WC ts c f l[i] _ s.H _ z (by rw[y];exact hc l[i] q S n);refine tq (bG I J v t p D B (bQ hx w e)) ?_;intro U Y O C;refine L.mono ?_;rintro d N ⟨rfl,g,o,A⟩;rw[iv] at o;subst o;by_cases m:jD ts l[i]=true
 ·rw[m]
  refine tq (av t M) ?_;intro U Y O C;refine⟨e,j,I,J,v,rfl,⟨g,rfl,A m⟩,λx hx=>?_⟩;rw[bw e] at hx;rcases bB.1 hx with hx|hx
  ·exact h x hx
  ·rw[bM] at hx;rw[hx];exact m
 ·rw[Bool.not_eq_true] at m
  rw[m];refine ur F t j ?_;exact⟨_,aF _,i,g,rfl,rfl,.inl ⟨by omega,l[i],q,m⟩⟩
theorem Rj (l:List Int)(f:D)(H:aA)(K:Int->aA->Prop)(h:aN prog 339 [.seq 1 (l.map iD),f] H λd H'=>∃r,d=i64 r/\K r H'):
  aN prog 287 [.seq 1 (l.map iD),f] H λd H'=>∃r,d=.val (.bool (decide (0<=r)))/\K r H':=by
 refine dO func287 ntmps287 results287 λj i Q c=>?_;refine t0 ?_;intro U Y O C;refine h.mono ?_;rintro d g ⟨r,rfl,e⟩;refine u0 c ?_;exact⟨_,aF _,r,rfl,e⟩
theorem WB (ts:List bp)(n z:Nat)(hw:pI ts)(hr:rfN ts)(a5:ts.length<=1000000)(a0:∀t∈ts,t.ar.length<=140737488351232)(w:n≠z):
  ∀(M:Nat) (a:Int) (S:List Int) (H:aA),bN ts.length a->a<M->H z=some (.row 349 0 1 [[.fn 286 [.rp [.seq 5 (ts.map bS)],.rp [.val (.map (some n))],.ep z 0 1 0 0]]])->H n=some (.map (SM S))->(∀x∈S,bN ts.length x)->(∀k∈S,k<=a->Qk ts k)->
   aN prog 286 [i64 a,.rp [.seq 5 (ts.map bS)],.rp [.val (.map (some n))],.ep z 0 1 0 0] H λd H'=>d=.val (.bool (jD ts a))/\∃c,H'=H.aU n (.map (SM c))/\(jD ts a=true->(∀x∈c,bN ts.length x)/\∀x∈c,x∈S\/Qk ts x):=by
 intro M
 induction M using Nat.strongRecOn with
 |ind M ih=>
  intro a S H j a2 B g q I
  have l:=lm bS ts
  have W:BX a:=by unfold bN at j;unfold BX;omega
  have E:=U4 (by omega) q W
  have f:=gY j
  have i:=Ip hw j
  have D:=Dn.F hw a j
  have G:(bY ts a).ar.length<=140737488351232:=a0 _ (ni j)
  have K:=hr _ (ni j)
  obtain⟨t,ht⟩:=oX (bY ts a)
  unfold TP at D
  rw[<-ht] at f D G i K
  obtain⟨tk,tm,tr,te,P⟩:=t
  simp only[bS] at f
  have o:0<=a:=j.1
  have s:a.toNat<ts.length:=by unfold bN at j;omega
  have m:a<(ts.length:Int):=j.2
  refine dO func286 ntmps286 results286 λw0 g0 Q L=>?_
  by_cases A:tk=3
  ·have N:(tk=3)=True:=aG A
   have e:jD ts a= !tm:=by
    cases tm with
    |true=>exact pV.2 λh=>(i.1 h).1 ⟨A,rfl⟩
    |false=>exact sC.2 (i.2 ⟨(λh=>by cases h.2),by rw[K A];simp⟩)
   refine ur L (eP f o s m l N) trivial ?_
   exact⟨_,aF _,by rw[e],S,(lX g).symm,λ_=>⟨q,λx hx=>.inl hx⟩⟩
  have N:(tk=3)=False:=aI A
  by_cases u:a∈S
  ·have v:=Mb u
   refine tq (bG f o s m l N g v) ?_;intro U Y O C
   refine⟨E,?_⟩
   refine u0 L ?_
   exact⟨_,aF _,by rw[sC.2 (I a u (kJ _))],S,(lX g).symm,λ_=>⟨q,λx hx=>.inl hx⟩⟩
  have v:=Gs u
  have V:=Cv u
  refine tq (bG f o s m l N g v) ?_;intro U Y O C
  refine⟨E,?_⟩
  refine tq (av g v) ?_;intro U Y O C
  refine⟨E,?_⟩
  rw[V]
  refine tq (cw f o s m l) ?_;intro U Y O C
  have a3:(H.aU n (.map (SM (S++[a])))) z=some (.row 349 0 1 [[.fn 286 [.rp [.seq 5 (ts.map bS)],.rp [.val (.map (some n))],.ep z 0 1 0 0]]]):=by rw[aJ (Ne.symm w)];exact B
  refine(Rj P _ _ (λr H'=>∃c,H'=H.aU n (.map (SM c))/\((0<=r/\∃x∈P,jD ts x=false)\/(r= -1/\(∀x∈P,jD ts x=true)/\((∀x∈c,bN ts.length x)/\∀x∈c,x∈S\/x=a\/Qk ts x)))) ((W4 ts n z P (λc=>(∀x∈c,bN ts.length x)/\∀x∈c,x∈S\/x=a\/Qk ts x) H w G B (λx hx S1 hG=>?_) (S++[a]) ⟨?_,?_⟩).mono λd H' ⟨r,c,X,Z,A⟩=>⟨r,X,c,Z,A⟩)).mono ?_
  ·have a6:=D x hx
   refine(ih (x+1).toNat (by omega) x S1 _ ⟨by omega,by omega⟩ (by omega) (by rw[aJ (Ne.symm w)];exact B) (aK _ _ _) hG.1 λk hk a4=>?_).mono ?_
   ·rcases hG.2 k hk with h|h|h
    ·exact I k h (by omega)
    ·omega
    ·exact h
   ·rintro d H' ⟨X,c,Z,h4⟩
    refine⟨X,c,Z,λhc=>⟨(h4 hc).1,λy hy=>?_⟩⟩
    rcases(h4 hc).2 y hy with h|h
    ·exact hG.2 y h
    ·exact .inr (.inr h)
  ·intro x hx
   rcases bB.1 hx with hx|hx
   ·exact q x hx
   ·rw[bM] at hx;rw[hx];exact j
  ·intro x hx
   rcases bB.1 hx with hx|hx
   ·exact .inl hx
   ·rw[bM] at hx;exact .inr (.inl hx)
  rintro d _ ⟨r,rfl,c,rfl,R⟩
  rcases R with⟨h0,x,hx,a1⟩|⟨rfl,T,hi,hm⟩
  ·have q0:(0<=r)=True:=aG h0
   have e:jD ts a=false:=pV.2 λh=>pV.1 a1 ((i.1 h).2 x hx)
   refine ur L q0 trivial ?_
   exact⟨_,aF _,by simp [e],c,rfl,λh=>by rw[e] at h;cases h⟩
  ·have J:Qk ts a:=i.2 ⟨λh=>A h.1,λp hp=>sC.1 (T p hp)⟩
   have e:jD ts a=true:=sC.2 J
   refine u0 L ?_
   exact⟨_,aF _,by simp [e],c,rfl,λ_=>⟨hi,λx hx=>by
    rcases hm x hx with h|h|h
    ·exact .inl h
    ·rw[h];exact .inr J
    ·exact .inr h⟩⟩
theorem Y4 (ts:List bp)(a:Int)(H:aA)(G:pI ts)(hr:rfN ts)(w:ts.length<=1000000)(s:∀t∈ts,t.ar.length<=140737488351232):
  aN prog 211 [.seq 5 (ts.map bS),i64 a] H λd H'=>d=.val (.bool (jD ts a))/\H=H':=by
 refine aq (K:=λd=>d=.val (.bool (jD ts a))) ?_;have f:=lm bS ts;have B:=aF H;refine dO func211 ntmps211 results211 λL J Q o=>?_;refine t0 ?_;intro U Y O C;intro I v;refine Y _ ?_;refine cm 2 v ?_;by_cases E:0<=a
 case neg=>
  have g:jD ts a=false:=pV.2 λh=>E h.1.1;have n:=nT (a<0);refine ur o (av f n) trivial ?_;exact zf B (by rw[g])
 have n:=nF (a<0);by_cases F:a<ts.length
 case neg=>
  have g:jD ts a=false:=pV.2 λh=>F h.1.2;have A:=nT ((ts.length:Int)<=a);refine ur o (bQ n A f) trivial ?_;exact zf B (by rw[g])
 have A:=nF ((ts.length:Int)<=a);refine tq (bQ n A f) ?_;intro U Y O C;intro c l m u;have r:(H.aU c (.map [])) m=none:=u;refine Y _ ?_;refine dZ 5 rfl (aK _ _ _) rfl ?_;refine lB (H.aU c (.map [])) (λx z y=>?_) ?_
 ·have D:x≠m:=λe=>by rw[e,r] at y;cases y
  show(((H.aU c _).aU m _).del m) x=_;rw[bL D,aJ D];exact y
 simp only[St.ku,List.drop];refine t0 ?_;intro U Y O C;intro j k;have i:c≠j:=lj (aK _ _ _) k;have p:H j=none:=(bF.1 k).2;refine Y _ ?_;refine t0 ?_;intro U Y O C;refine(WB ts c j G hr w s i ts.length a [] _ ⟨by omega,by omega⟩ (by omega) (aK _ _ _) ((aJ i).trans (aK _ _ _)) (by simp) (by simp)).mono ?_;rintro d _ ⟨rfl,S,rfl,_⟩;refine u0 o ?_;have q:H.le (((H.aU c (.map [])).aU j (.row 349 0 1 [[.fn 286 [.rp [.seq 5 (ts.map bS)],.rp [.val (.map (some c))],.ep j 0 1 0 0]]])).aU c (.map (SM S))):=aQ (aQ (aQ (aF _) l) p) l;exact zf q rfl
def pk (a b:Int):Value:=.agg #[.int .i64 a,.int .i64 b]
theorem Ad:Go.WideMaps.ArrKey prog 60 3 2:=⟨underlying60,by kernel_rfl,by kernel_rfl,by kernel_rfl⟩
theorem ID:∃m,(prog).types.size=m+1:=⟨(prog).types.size - 1,by kernel_rfl⟩
theorem Q6 (h: -9223372036854775808<=a/\a<=9223372036854775807):(Lit.int .i64 a).wf=true:=by simp [Lit.wf,IntKind.min,IntKind.max,IntKind.signed,IntKind.bits];omega
theorem v8 (ha:du a)(hb:du b):∃l,keyOf prog 60 (pk a b)=some l:=
 ⟨_,Go.WideMaps.keyOf_pair Ad underlying3 ID (Q6 ha) (Q6 hb)⟩
structure wh (M:List (Value×D)) (f:Int->Int->Bool):Prop where
 keys:∀p∈M,∃a b,du a/\du b/\p.1=pk a b
 val:∀a b d,iC M (pk a b)=some d->d=.val (.bool (f a b))
theorem wh.nil (f:Int->Int->Bool):wh [] f:=⟨(λp c=>by cases c),λa b d h=>by cases h⟩
theorem wh.ok {M:List (Value×D)}{f:Int->Int->Bool}(h:wh M f)(ha:du a)(hb:du b):SP prog 60 M (pk a b):=
 ⟨Go.Maps.Keyed.of_law Ad.law,v8 ha hb,λp c=>by obtain⟨x,y,d,g,e⟩:=h.keys p c;rw[e];exact v8 d g⟩
theorem wh.set {M:List (Value×D)}{f:Int->Int->Bool}(h:wh M f)(ha:du a)(hb:du b):wh (eJ M (pk a b) (.val (.bool (f a b)))) f where
 keys:=λp hp=>by
  rcases vf hp with rfl|hp
  ·exact⟨a,b,ha,hb,rfl⟩
  ·exact h.keys p hp
 val:=λx y d hd=>by
  by_cases e:pk a b=pk x y
  ·have e':a=x/\b=y:=by simpa [pk] using e
   obtain⟨rfl,rfl⟩:=e';rw[jJ] at hd;injection hd with hd
   exact hd.symm
  ·rw[n9 _ _ e] at hd
   exact h.val x y d hd
theorem Gy {d:Type}{p:d->Bool}{l:List d}{i:Nat}(h:(l.take i).all p=false):l.all p=false:=by
 rw[Bool.eq_false_iff] at h ⊢;intro c;apply h;rw[dK] at c ⊢;exact λx e=>c x (rC e)
theorem vl {l:List (Int×Int)}{c d e:Nat}{H:aA}{x:cY}(j:oc l c d H)(h1:e≠c)(h2:e≠d):oc l c d (H.aU e x):=by
 obtain⟨k,m,f,g,h,i⟩:=j;exact⟨k,m,(aJ h1.symm).trans f,g,(aJ h2.symm).trans h,i⟩
theorem X0 (l:List (Int×Int))(n:Int)(ts:List bp)(Z b2 k T:Nat)(hw:pI ts)(c6:∀p∈l,bN n p.1/\bN n p.2)(hn:n<=1000000)(hl:l.length<=1000000)(ce:ts.length<=1000000)(c2:∀t∈ts,t.ar.length<=140737488351232)(b0:k≠Z)(b4:k≠b2)(ap:k≠T):
  ∀(kk:Nat) (a b:Int) (M:List (Value×D)) (H:aA),bN ts.length a->bN ts.length b->a<kk->b<kk->oc l Z b2 H->H T=some (.row 310 0 1 [[.fn 340 [.rp [.val (.map (some k))],.rp [.seq 5 (ts.map bS)],.rp [fJ n Z b2],.ep T 0 1 0 0]]])->H k=some (.map M)->wh M (ky l n ts)->
   aN prog 340 [i64 a,i64 b,.rp [.val (.map (some k))],.rp [.seq 5 (ts.map bS)],.rp [fJ n Z b2],.ep T 0 1 0 0] H λd H'=>d=.val (.bool (ky l n ts a b))/\∃M',H'=H.aU k (.map M')/\wh M' (ky l n ts):=by
 intro kk
 induction kk using Nat.strongRecOn with
 |ind kk ih=>
  intro a b M H ha hb c9 cc hR a3 X hM
  have bi:=lm bS ts
  have a0:du a:=by unfold bN at ha;unfold du;omega
  have a1:du b:=by unfold bN at hb;unfold du;omega
  have ag:=hM.ok a0 a1
  have a2:H.aU k (.map M)=H:=by
   funext x;by_cases e:x=k
   ·rw[e,aK,X]
   ·rw[aJ e]
  refine dO func340 ntmps340 results340 λw0 g0 Q aB=>?_
  simp only[pk] at ag
  cases G:iC M (pk a b) with
  |some d=>
   have hv:=hM.val a b d G
   subst hv
   simp only[pk] at G
   refine tq (av X G) ?_;intro U Y O C
   refine⟨ag,?_⟩
   refine u0 aB ?_
   exact⟨_,aF _,M,a2.symm,hM⟩
  |none=>
   simp only[pk] at G
   refine tq (av X G) ?_;intro U Y O C
   refine⟨ag,?_⟩
   have ad:=gY ha
   have ae:=gY hb
   have wa:=qx hw ha
   have wb:=qx hw hb
   have am:(bY ts a).ar.length<=140737488351232:=by obtain⟨h',he⟩:=qM ha;rw[he];exact c2 _ (ao h')
   have N:=Jv (l:=l) (n:=n) hw ha hb
   obtain⟨t,ht⟩:=oX (bY ts a)
   obtain⟨u,hu⟩:=oX (bY ts b)
   rw[<-ht] at ad N wa am
   rw[<-hu] at ae N wb
   obtain⟨tk,tm,tr,te,j⟩:=t
   obtain⟨uk,um,ur,ue,m⟩:=u
   simp only[bS] at ad ae N wa wb am
   have bs:0<=a:=ha.1
   have bt:0<=b:=hb.1
   have c1:a.toNat<ts.length:=by unfold bN at ha;omega
   have c3:b.toNat<ts.length:=by unfold bN at hb;omega
   have bk:a<(ts.length:Int):=ha.2
   have bl:b<(ts.length:Int):=hb.2
   refine tq (av X G) ?_;intro U Y O C
   refine wE (λt=>t==some 24||t==some 26||t==some 27||t==some 28||t==some 30||t==some 31) (λ_=>false) (λ_ _ _ _=>False) (λ_ _ _ _ _=>False) λU Y=>?_;have fs:=And.intro bi (And.intro ad (And.intro ae (And.intro bs (And.intro bt (And.intro c1 (And.intro c3 (And.intro bk bl)))))));refine uj ?_;refine nx ?_;(try clear fs)
   intro R bo E b3
   have a5:R≠E:=lj (aK _ _ _) b3
   have bq:H E=none:=(bF.1 b3).2
   simp only[aJ a5,aJ a5.symm,aK,lk,List.set_cons_zero,List.drop]
   refine⟨trivial,trivial,by decide,trivial,trivial,by decide,Y _ ?_⟩
   refine dZ 11 rfl ((aJ a5).trans (aK _ _ _)) rfl ?_
   refine dZ 12 rfl ((bL a5.symm).trans (aK _ _ _)) rfl ?_
   refine lB H (λx z hz=>?_) ?_
   ·have e1:x≠R:=λe=>by rw[e,bo] at hz;cases hz
    have e2:x≠E:=λe=>by rw[e,bq] at hz;cases hz
    show((((((H.aU R _).aU E _).aU R _).aU E _).del R).del E) x=_
    rw[bL e2,bL e1,aJ e2,aJ e1,aJ e2,aJ e1]
    exact hz
   obtain⟨P1,r⟩:=oX ((decide (tk=uk)&&(decide (tm=um)&&decide (j.length=m.length))))
   obtain⟨Kp,g⟩:=oX ((if tk=3 then gh l n tr ur&&(ky l n ts te ue&&(!tm||ky l n ts ue te)) else true))
   rw[<-g] at N
   have b5:ky l n ts a b=((P1&&Kp)&&(j.zip m).all λp=>ky l n ts p.1 p.2):=by rw[N,r];simp only[Bool.and_assoc]
   have I:=lm iD j
   have ak:=lm iD m
   refine Ic (λs=>s.df=[]/\s.fr 0=i64 a/\s.fr 1=i64 b/\s.fr 2=.rp [.val (.map (some k))]/\s.fr 3=.rp [.seq 5 (ts.map bS)]/\s.fr 4=.rp [fJ n Z b2]/\s.fr 5=.ep T 0 1 0 0/\s.fr 9=.val (.bool P1)/\s.fr 11=.rp [i64 tk,.val (.bool tm),i64 tr,i64 te,.seq 1 (j.map iD)]/\s.fr 12=.rp [i64 uk,.val (.bool um),i64 ur,i64 ue,.seq 1 (m.map iD)]/\s.H=H) ?_ ?_
   ·simp only[St.ku,List.drop]
    by_cases g1:tk=uk
    case neg=>
     have q1:(tk=uk)=False:=aI g1;refine tn q1 ?_;exact⟨rfl,rfl,rfl,rfl,rfl,rfl,rfl,by rw[r,af g1] <;> rfl,rfl,rfl,rfl⟩
    have q1:(tk=uk)=True:=aG g1
    by_cases g2:tm=um
    case neg=>
     have q2:(tm=um)=False:=aI g2;refine tn (av q1 q2) ?_;exact⟨rfl,rfl,rfl,rfl,rfl,rfl,rfl,by rw[r,ah g1,af g2] <;> rfl,rfl,rfl,rfl⟩
    have q2:(tm=um)=True:=aG g2
    by_cases g3:j.length=m.length
    ·have q3:=nT ((j.length:Int)=(m.length:Int))
     refine tn (cw q1 q2 q3 I ak) ?_
     exact⟨rfl,rfl,rfl,rfl,rfl,rfl,rfl,by rw[r,ah g1,ah g2,ah g3] <;> rfl,rfl,rfl,rfl⟩
    ·have q3:=nF ((j.length:Int)=(m.length:Int))
     refine tn (cw q1 q2 q3 I ak) ?_
     exact⟨rfl,rfl,rfl,rfl,rfl,rfl,rfl,by rw[r,ah g1,ah g2,af g3] <;> rfl,rfl,rfl,rfl⟩
   rintro s ⟨v,J,K,L,f3,W,w,h,c,f,hH⟩
   refine Ic (λs=>s.df=[]/\s.fr 0=i64 a/\s.fr 1=i64 b/\s.fr 2=.rp [.val (.map (some k))]/\s.fr 3=.rp [.seq 5 (ts.map bS)]/\s.fr 4=.rp [fJ n Z b2]/\s.fr 5=.ep T 0 1 0 0/\s.fr 9=.val (.bool (P1&&Kp))/\s.fr 11=.rp [i64 tk,.val (.bool tm),i64 tr,i64 te,.seq 1 (j.map iD)]/\s.fr 12=.rp [i64 uk,.val (.bool um),i64 ur,i64 ue,.seq 1 (m.map iD)]/\∃M,s.H=H.aU k (.map M)/\wh M (ky l n ts)) ?_ ?_
   ·cases b9:P1 with
    |false=>
     rw[b9] at h
     refine tn (av h c) ?_
     exact⟨v,J,K,L,f3,W,w,h,c,f,M,hH.trans a2.symm,hM⟩
    |true=>
     rw[b9] at h r
     have g1:tk=uk:=by
      have:=r.symm;simp only[cX,dF] at this;exact this.1
     by_cases h5:tk=3
     case neg=>
      have q5:(tk=3)=False:=aI h5;rw[aC h5] at g;refine tn (bQ h c q5) ?_;exact⟨v,J,K,L,f3,W,w,by rw[g];exact h,c,f,M,hH.trans a2.symm,hM⟩
     have q5:(tk=3)=True:=aG h5
     rw[aD h5] at g
     have c4:=wa.1 h5
     have c5:=wb.1 (g1▸h5)
     have b8:bN ts.length te:=⟨c4.1,by omega⟩
     have F:bN ts.length ue:=⟨c5.1,by omega⟩
     refine tq (eP W h c f q5 hH) ?_;intro U Y O C
     refine(PR l n tr ur Z b2 H hR c6 hn hl).q ?_
     cases ho:gh l n tr ur with
     |false=>
      rw[ho,dq] at g
      refine tn (bQ h c f) ?_
      exact⟨v,J,K,L,f3,W,w,by rw[g] <;> rfl,c,f,M,a2.symm,hM⟩
     |true=>
      rw[ho,cV] at g
      refine tq (cw w h c f a3) ?_;intro U Y O C
      refine(ih (kk - 1) (by omega) te ue M H b8 F (by omega) (by omega) hR a3 X hM).mono ?_
      rintro d _ ⟨rfl,M2,rfl,o⟩
      cases ba:ky l n ts te ue with
      |false=>
       rw[ba,dq] at g
       refine tn (cA w h c f) ?_
       exact⟨v,J,K,L,f3,W,w,by rw[g] <;> rfl,c,f,M2,rfl,o⟩
      |true=>
       rw[ba,cV] at g
       by_cases tY:tm=true
       case neg=>
        have a8:tm=false:=by simpa using tY
        rw[a8] at g;rw[a8] at c;refine tn (cA w h c f) ?_;exact⟨v,J,K,L,f3,W,w,by rw[g] <;> rfl,by rw[a8];exact c,f,M2,rfl,o⟩
       rw[tY] at g
       rw[tY] at c
       have P:(H.aU k (.map M2)) T=some (.row 310 0 1 [[.fn 340 [.rp [.val (.map (some k))],.rp [.seq 5 (ts.map bS)],.rp [fJ n Z b2],.ep T 0 1 0 0]]]):=(aJ ap.symm).trans a3
       refine tq (cw w h c f P) ?_;intro U Y O C
       refine(ih (kk - 1) (by omega) ue te M2 _ F b8 (by omega) (by omega) (vl hR b0 b4) P (aK _ _ _) o).mono ?_
       rintro d _ ⟨rfl,M3,rfl,ac⟩
       refine tn (cA w h c f) ?_
       exact⟨v,J,K,L,f3,W,w,by rw[g] <;> rfl,by rw[tY];exact c,f,M3,rfl,ac⟩
   rintro s ⟨v,J,K,L,f3,W,w,h,c,f,c0⟩
   refine tz ?_
   refine aO j.length (λi s=>s.df=[]/\s.fr 0=i64 a/\s.fr 1=i64 b/\s.fr 2=.rp [.val (.map (some k))]/\s.fr 3=.rp [.seq 5 (ts.map bS)]/\s.fr 4=.rp [fJ n Z b2]/\s.fr 5=.ep T 0 1 0 0/\s.fr 9=.val (.bool ((P1&&Kp)&&((j.zip m).take i).all λp=>ky l n ts p.1 p.2))/\s.fr 11=.rp [i64 tk,.val (.bool tm),i64 tr,i64 te,.seq 1 (j.map iD)]/\s.fr 12=.rp [i64 uk,.val (.bool um),i64 ur,i64 ue,.seq 1 (m.map iD)]/\s.fr 13=i64 i/\∃M,s.H=H.aU k (.map M)/\wh M (ky l n ts)) ⟨v,J,K,L,f3,W,w,by rw[gK,lh,fu];exact h,c,f,rfl,c0⟩ ?_
   rintro i s2 hi ⟨a7,J,K,L,f3,W,w,h,c,f,V,M2,ab,o⟩
   have hx:=aX i
   have br:=aZ i
   have aa:=o.ok a0 a1
   simp only[pk] at aa
   have a9:(H.aU k (.map M2)) k=some (.map M2):=aK _ _ _
   cases hv:((P1&&Kp)&&((j.zip m).take i).all λp=>ky l n ts p.1 p.2) with
   |false=>
    rw[hv] at h
    have A:ky l n ts a b=false:=by
     rw[b5];cases a6:(P1&&Kp) with
     |false=>rfl
     |true=>rw[a6,cV] at hv;rw[Gy hv];rfl
    refine tq (bG J K L h c V I (bQ ab A a9)) ?_;intro U Y O C;refine⟨aa,?_⟩;refine ur aB h a7 ?_;have B:=o.set a0 a1;rw[A] at B;simp only[pk] at B;exact⟨_,aF _,(by first|rfl|trivial|rw[A]),_,(by first|rfl|exact iv _ _ _ _),B⟩
   |true=>
    rw[hv] at h
    have bb:=hv
    rw[cX] at bb
    have a6:=bb.1
    rw[cX] at a6
    have cd:j.length=m.length:=by
     have:=a6.1;rw[r] at this;simp only[cX,dF] at this;exact this.2.2
    have ch:(j.zip m).length=j.length:=by rw[List.length_zip];omega
    by_cases a4:i<j.length
    case neg=>
     have q4:=lF i j.length;have A:ky l n ts a b=true:=by
      rw[bK (by omega)] at hv;rw[b5,hv]
     refine tq (bG J K L h c V I (cA ab A a9 q4)) ?_;intro U Y O C;refine⟨aa,?_⟩;refine ur aB h a7 ?_;have B:=o.set a0 a1;rw[A] at B;simp only[pk] at B;exact⟨_,aF _,(by first|rfl|trivial|rw[A]),_,(by first|rfl|exact iv _ _ _ _),B⟩
    have q4:=lT i j.length
    have F:i<m.length:=by omega
    have b6:=bT a4
    have b7:=bT F
    have w3:=wS i
    have c7:=wa.2 j[i] (ao a4)
    have c8:=wb.2 m[i] (ao F)
    have P:(H.aU k (.map M2)) T=some (.row 310 0 1 [[.fn 340 [.rp [.val (.map (some k))],.rp [.seq 5 (ts.map bS)],.rp [fJ n Z b2],.ep T 0 1 0 0]]]):=(aJ ap.symm).trans a3
    have al:=ih (kk - 1) (by omega) j[i] m[i] M2 _ ⟨c7.1,by unfold bN at ha;omega⟩ ⟨c8.1,by unfold bN at hb;omega⟩ (by omega) (by omega) (vl hR b0 b4) P a9 o
    have aw:((P1&&Kp)&&((j.zip m).take (i+1)).all λp=>ky l n ts p.1 p.2)=ky l n ts j[i] m[i]:=by
     rw[bw (by omega),wR,<-Bool.and_assoc,hv,cV,List.getElem_zip];simp
    refine tq (cw h c V I q4) ?_;intro U Y O C
    obtain⟨x,bc⟩:=oX j[i]
    obtain⟨y,be⟩:=oX m[i]
    rw[<-bc] at b6
    rw[<-be] at b7
    rw[<-bc,<-be] at al aw
    refine wE (λ_=>false) (λt=>decide (t=some 107)) (λ_ _ _ _=>False) (λ_ _ H0 d H'=>d=.val (.bool (ky l n ts x y))/\∃M',H'=H0.aU k (.map M')/\wh M' (ky l n ts)) λU Y=>?_;have fs:=And.intro w (And.intro h (And.intro c (And.intro f (And.intro V (And.intro I (And.intro ak (And.intro b6 (And.intro b7 (And.intro hx (And.intro br (And.intro a4 (And.intro F (And.intro ab P)))))))))))));refine uj ?_;refine nx ?_;(try clear fs)
    refine⟨al.mono (λd H' ⟨e1,M',e2,e3⟩=>⟨e1,M',e2.trans (iv _ _ _ _),e3⟩),?_⟩
    rintro d _ ⟨rfl,M3,rfl,ac⟩
    refine Y _ ?_
    refine tn (av V w3) ?_
    exact⟨a4,a7,J,K,L,f3,W,w,by rw[aw] <;> rfl,c,f,rfl,M3,rfl,ac⟩
theorem ZW (l:List (Int×Int))(n:Int)(ts:List bp)(o q:Nat)(H:aA)(hw:pI ts)(W:∀p∈l,bN n p.1/\bN n p.2)(hn:n<=1000000)(hl:l.length<=1000000)(X:ts.length<=1000000)(P:∀t∈ts,t.ar.length<=140737488351232)(hR:oc l o q H)(a b:Int):
  aN prog 289 [fJ n o q,.seq 5 (ts.map bS),i64 a,i64 b] H λd H'=>d=.val (.bool (y8 l n ts a b))/\H=H':=by
 refine aq (K:=λd=>d=.val (.bool (y8 l n ts a b))) ?_;have m:=lm bS ts;refine dO func289 ntmps289 results289 λw0 g0 Q G=>?_;refine tq m ?_;intro U Y O C;intro D V v y;have A:D≠v:=lj (aK _ _ _) y;have I:H v=none:=(bF.1 y).2;refine Y _ ?_;refine dZ 4 rfl ((aJ A).trans (aK _ _ _)) rfl ?_;refine dZ 5 rfl ((bL A.symm).trans (aK _ _ _)) rfl ?_;refine lB H (λx z j=>?_) ?_
 ·have i:x≠D:=λe=>by rw[e,V] at j;cases j
  have E:x≠v:=λe=>by rw[e,I] at j;cases j
  show((((H.aU D _).aU v _).del D).del v) x=_;rw[bL E,bL i,aJ E,aJ i];exact j
 simp only[St.ku,List.drop];by_cases h1:min a b<0
 ·have F:(min a b<0)=True:=aG h1
  refine ur G (av @fJ.eq_1 F) trivial ?_;exact⟨_,aF _,aF _,_,aL (aF _),by rw[xU λh=>by have:=h.1.1;have:=h.2.1;omega]⟩
 have F:(min a b<0)=False:=aI h1;by_cases h2:(ts.length:Int)<=max a b
 ·have Z:((ts.length:Int)<=max a b)=True:=aG h2
  refine ur G (cA @fJ.eq_1 F Z m) trivial ?_;exact⟨_,aF _,aF _,_,aL (aF _),by rw[xU λh=>by have:=h.1.2;have:=h.2.2;omega]⟩
 have Z:((ts.length:Int)<=max a b)=False:=aI h2;have N:bN ts.length a:=⟨by omega,by omega⟩;have R:bN ts.length b:=⟨by omega,by omega⟩;refine to (cA @fJ.eq_1 F Z m) ?_;intro U Y O C;intro g c B T;obtain⟨m1,m2,i,E,L,e4⟩:=hR;have s:g≠o:=λe=>by rw[e,i] at c;cases c
 have u:g≠q:=λe=>by rw[e,L] at c;cases c
 have J:(H.aU g (.map [])) B=none:=T;refine Y _ ?_;refine dZ 9 rfl (aK _ _ _) rfl ?_;refine lB (H.aU g (.map [])) (λx z j=>?_) ?_
 ·have i:x≠B:=λe=>by rw[e,J] at j;cases j
  show(((H.aU g _).aU B _).del B) x=_;rw[bL i,aJ i];exact j
 simp only[St.ku,List.drop];refine t0 ?_;intro U Y O C;intro k w;refine t0 ?_;intro U Y O C;have r:g≠k:=lj (aK _ _ _) w;have f:H k=none:=(bF.1 w).2;have M:∀x,oc l o q ((H.aU g (.map [])).aU k (.row 310 0 1 x)):=λx=>by
  have f1:k≠o:=λe=>by rw[e,i] at f;cases f
  have f2:k≠q:=λe=>by rw[e,L] at f;cases f
  exact vl (vl ⟨m1,m2,i,E,L,e4⟩ s u) f1 f2
 refine(X0 l n ts o q g k hw W hn hl X P s u r ts.length a b [] _ N R (by unfold bN at N;omega) (by unfold bN at R;omega) (M _) (aK _ _ _) ((aJ r).trans (aK _ _ _)) (wh.nil _)).mono ?_;rintro d _ ⟨rfl,M',rfl,a0⟩;refine u0 G ?_;have aM:H.le (((H.aU g (.map [])).aU k (.row 310 0 1 [[.fn 340 [.rp [.val (.map (some g))],.rp [.seq 5 (ts.map bS)],.rp [fJ n o q],.ep k 0 1 0 0]]])).aU g (.map M')):=aQ (aQ (aQ (aF _) c) f) c;exact zf aM (by rw[BC N R])
def rz (b:bn) (n:Int) (c d:Nat):List D:=cu b++[fJ n c d]
structure Ck (b:bn):Prop where
 wt:pI b.ty
 rf:rfN b.ty
 wl:Gi b.ty b.lc
 ar:K3 b.ty
 tl:b.ty.length<=1000000
 ol:∀p∈b.ol,bN b.rg.length p.1/\bN b.rg.length p.2
 Qm:b.ol.length<=1000000
 MX:b.rg.length<=1000000
 Xp:cH b.lc.length
 YS:cH b.bl.length
theorem K3.cH {ts:List bp}(h:K3 ts):∀t∈ts,t.ar.length<=140737488351232:=λt c=>by have:=h t c;omega
theorem BQ (p:gR)(H:aA)(hp:cH p.pr.length):aN prog 142 [.agg (ee p)] H λd H'=>d=.val (.bool (dU p))/\H=H':=by
 refine aq (K:=λd=>d=.val (.bool (dU p))) ?_;have i:=aF H;have c:=lm pD p.pr;refine dO func142 ntmps142 results142 λo n Q h=>?_;refine tq @ee.eq_1 ?_;intro U Y O C;intro m j;refine Y _ ?_;refine cm 1 j ?_;by_cases f:p.lo=0
 case neg=>
  have g:(p.lo=0)=False:=aI f;have e:dU p=false:=by unfold dU;rw[af f,dq]
  refine ur h g trivial ?_;exact zf i (by rw[e])
 have g:(p.lo=0)=True:=aG f;by_cases l:p.pr.length=0
 ·have k:=nT ((p.pr.length:Int)=0)
  have e:dU p=true:=by unfold dU;rw[ah f,ah l];rfl
  refine ur h (bQ g k c) trivial ?_;exact zf i (by rw[e])
 ·have k:=nF ((p.pr.length:Int)=0)
  have e:dU p=false:=by unfold dU;rw[af l,fq]
  refine ur h (bQ g k c) trivial ?_;exact zf i (by rw[e])
theorem qA (x:Bool)(H:aA):aN prog 147 [.val (.bool x)] H λd H'=>d=i64 (if x=true then 22 else 0)/\H=H':=by
 refine aq (K:=λd=>d=i64 (if x=true then 22 else 0)) ?_;have e:=aF H;refine dO func147 ntmps147 results147 λg f Q c=>?_;cases x
 ·refine u0 c ?_
  exact zf e rfl
 ·refine u0 c ?_
  exact zf e rfl
def wy:List Int->Int
 |[]=>0
 |e::l=>if e≠0 then e else wy l
theorem JB (l:List Int)(H:aA)(hl:cH l.length):aN prog 136 [.seq 1 (l.map iD)] H λd H'=>d=i64 (wy l)/\H=H':=by
 refine aq (K:=λd=>d=i64 (wy l)) ?_;have k:=lm iD l;unfold cH at hl;refine dO func136 ntmps136 results136 λD A Q v=>?_;refine tn k ?_;refine aO l.length (λi s=>s.df=[]/\s.fr 5=.seq 1 (l.map iD)/\s.fr 6=i64 l.length/\s.fr 7=i64 i/\s.H=H/\wy l=wy (l.drop i)) ⟨rfl,rfl,rfl,rfl,rfl,rfl⟩ ?_;rintro i s B ⟨j,r,o,t,w,g⟩;have y:=aX i;have m:=aZ i;have e:H.le s.H:=by rw[w];exact aF _
 by_cases c:i<l.length
 case neg=>
  have q:=lF i l.length;rw[cb (by omega)] at g;refine ur v (bQ o t q) j ?_;exact⟨_,aF _,e,_,aL e,by rw[g] <;> rfl⟩
 have f:(i:Int)<(l.length:Int):=by omega
 have q:((i:Int)<(l.length:Int))=True:=aG f;have z:=wS i;have n:=bT c;rw[cL c,wy] at g;by_cases p:l[i]=0
 ·have u:(l[i]=0)=True:=aG p
  rw[aC (λh=>h p)] at g;refine tn (bG r o t k q n y (cw m c f u z)) ?_;exact⟨c,j,r,o,rfl,w,g⟩
 ·have u:(l[i]=0)=False:=aI p
  rw[aD p] at g;refine ur v (bG r o t k q n y (cA m c f u)) j ?_;exact⟨_,aF _,e,_,aL e,by rw[g] <;> rfl⟩
theorem ny (b:bn)(n:Int)(i j:Nat)(p:gR)(H:aA)(ck:Ck b)(hp:cH p.pr.length):aN prog 150 [.agg (rz b n i j),.agg (ee p)] H λd H'=>d=.eO [i64 (mB b p).1,i64 (mB b p).2]/\H=H':=by
 refine aq (K:=λd=>d=.eO [i64 (mB b p).1,i64 (mB b p).2]) ?_;have h:=aF H;have f:=QS b.ty b.lc p H ck.wt ck.wl ck.ar hp;simp only[ee] at f;unfold mB;refine dO func150 ntmps150 results150 λo m Q g=>?_;simp only[rz,cu,dJ,cz];refine tq @ee.eq_1 ?_;intro U Y O C;intro k c l e;refine Y _ ?_;refine uB 2 3 c e ?_;refine t0 ?_;intro U Y O C;refine f.q ?_;refine u0 g ?_;exact zf h rfl
theorem C3 (b:bn)(n:Int)(N P:Nat)(o:gq)(H:aA)(ck:Ck b)(hp:yW o):aN prog 146 [.agg (rz b n N P),.agg (db o)] H λd H'=>d=i64 (kx b o)/\H=H':=by
 refine aq (K:=λd=>d=i64 (kx b o)) ?_;have r:=aF H;have z:=ny b n N P o.pl H ck hp;have A:=BQ o.pl H hp;have E:=JL o.pl H hp;have L:=λa=>Y4 b.ty a H ck.wt ck.rf ck.tl ck.ar.cH;have F:=λx=>qA x H;obtain⟨y,c⟩:=oX (kx b o);rw[<-c];unfold kx at c;obtain⟨T,R⟩:=oX (mB b o.pl);rw[<-R] at c z;clear R;obtain⟨k,p,v⟩:=o;simp only at c;simp only[rz,cu,dJ,cz,ee] at z;simp only[ee] at A E;refine dO func146 ntmps146 results146 λZ X Q m=>?_;simp only[rz,cu,dJ,cz];refine tq @db.eq_1 ?_;intro U Y O C;intro V I W J;refine Y _ ?_;refine uB 2 3 I J ?_;by_cases u:k=2
 ·have f:=nF (k=0)
  have g:=nF (k=1);have i:(k=2)=True:=aG u;have j:=nF (k=3);have l:=nF (k=4);rw[aC (by omega)] at c;refine tq (cw f g j l i) ?_;intro U Y O C;refine A.q ?_;cases B:dU p
  ·have e:y=2:=c.trans (aD (.inr ⟨by omega,B⟩))
   exact oz m (cw f g i j l) r e
  ·have e:y=0:=c.trans (by rw[aC (by rw[B];rintro(⟨_,h,_⟩|⟨_,h⟩);exact h u;cases h),aC (by omega),aD (by omega)])
   exact oz m (cw f g i j l) r e
 by_cases u:k=3
 ·have f:=nF (k=0)
  have g:=nF (k=1);have i:=nF (k=2);have j:(k=3)=True:=aG u;have l:=nF (k=4);rw[aC (by omega)] at c;refine tq (cw f g j l i) ?_;intro U Y O C;refine A.q ?_;cases B:dU p
  ·have e:y=2:=c.trans (aD (.inr ⟨by omega,B⟩))
   exact oz m (cw f g i j l) r e
  rw[aC (by rw[B];rintro(⟨_,_,h⟩|⟨_,h⟩);exact h u;cases h)] at c;by_cases s:v=0
  ·have t:(v=0)=True:=aG s
   have e:y=0:=c.trans (by rw[aC (by omega),aD (by omega)]);exact oz m (eP f g i j l t) r e
  have t:(v=0)=False:=aI s;by_cases G:v=1
  ·have M:(v=1)=True:=aG G
   have e:y=0:=c.trans (by rw[aC (by omega),aD (by omega)]);exact oz m (ej f g i j l t M) r e
  ·have M:(v=1)=False:=aI G
   have e:y=3:=c.trans (aD ⟨u,s,G⟩);exact oz m (ej f g i j l t M) r e
 by_cases u:k=4
 ·have f:=nF (k=0)
  have g:=nF (k=1);have i:=nF (k=2);have j:=nF (k=3);have l:(k=4)=True:=aG u;rw[aC (by omega)] at c;by_cases s:v=0
  case neg=>
   have t:(v=0)=False:=aI s;have e:y=2:=c.trans (aD (.inl ⟨s,by omega,by omega⟩));exact oz m (eP f g i j l t) r e
  have t:(v=0)=True:=aG s;refine tq (eP f g i j l t) ?_;intro U Y O C;refine A.q ?_;cases B:dU p
  ·have e:y=2:=c.trans (aD (.inr ⟨by omega,B⟩))
   exact oz m (cw f g i j l) r e
  ·have e:y=0:=c.trans (by rw[aC (by rw[B];rintro(⟨h,_⟩|⟨_,h⟩);exact h s;cases h),aC (by omega),aD (by omega)])
   exact oz m (cw f g i j l) r e
 by_cases u:k=0
 ·have f:(k=0)=True:=aG u
  have g:=nF (k=1);have i:=nF (k=2);have j:=nF (k=3);have l:=nF (k=4);rw[aC (by omega)] at c;by_cases s:v=0
  case neg=>
   have t:(v=0)=False:=aI s;have e:y=2:=c.trans (aD (.inl ⟨s,by omega,by omega⟩));exact oz m (eP f g i j l t) r e
  have t:(v=0)=True:=aG s;rw[aC (by omega),aC (by omega),aC (by omega)] at c;refine tq (eP f g i j l t) ?_;intro U Y O C;refine z.q ?_;by_cases w:T.2=0
  case neg=>
   have D:(T.2=0)=False:=aI w;have e:y=T.2:=c.trans (aD w);exact oz m D r e
  have D:(T.2=0)=True:=aG w;rw[aC (λh=>h w)] at c;refine tq (av f D) ?_;intro U Y O C;refine(L _).q ?_;have e:y=if jD b.ty T.1=false then 22 else 0:=by
   rw[c];cases jD b.ty T.1 <;> simp [u]
  refine t0 ?_;intro U Y O C;refine(F _).q ?_;exact oz m f r e
 by_cases u:k=1
 ·have f:=nF (k=0)
  have g:(k=1)=True:=aG u;have i:=nF (k=2);have j:=nF (k=3);have l:=nF (k=4);rw[aC (by omega)] at c;by_cases s:v=0
  case neg=>
   have t:(v=0)=False:=aI s;have e:y=2:=c.trans (aD (.inl ⟨s,by omega,by omega⟩));exact oz m (eP f g i j l t) r e
  have t:(v=0)=True:=aG s;rw[aC (by omega),aC (by omega),aC (by omega)] at c;refine tq (eP f g i j l t) ?_;intro U Y O C;refine z.q ?_;by_cases w:T.2=0
  case neg=>
   have D:(T.2=0)=False:=aI w;have e:y=T.2:=c.trans (aD w);exact oz m D r e
  have D:(T.2=0)=True:=aG w;rw[aC (λh=>h w)] at c;refine tq (av f D) ?_;intro U Y O C;refine E.q ?_;have e:y=if pC p 0=true then 22 else 0:=by
   rw[c];cases pC p 0 <;> simp [u]
  refine t0 ?_;intro U Y O C;refine(F _).q ?_;exact oz m f r e
 have f:=nF (k=0);have g:=nF (k=1);have i:=nF (k=2);have j:=nF (k=3);have l:=nF (k=4);have e:y=14:=c.trans (aD (by omega));exact oz m (cw f g i j l) r e
end Go.Proofs.YtffgfafbffdgaaaGreatDoor
