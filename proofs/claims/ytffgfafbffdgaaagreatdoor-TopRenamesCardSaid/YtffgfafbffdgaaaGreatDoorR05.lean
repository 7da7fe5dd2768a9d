/- Lemmas and contracts of functions, several texts in one. -/
import Derived.Test.YtffgfafbffdgaaaGreatDoorR04
set_option maxRecDepth 100000
set_option maxHeartbeats 4000000
set_option linter.all false
namespace Go.Proofs.YtffgfafbffdgaaaGreatDoor
open Go.RowKit
variable {H A B H':aA}{b t i j:Nat}{s s':St}{P:Program}{o p:Oper}{aY:Array Oper}{d dp:D}{cx:Cx}{fl:Option Tmp->Bool}
def aA.add (H A:aA):aA:=λb=>match A b with
 |some x=>some x
 |Option.none=>H b
def jn (A H:aA):Prop:=∀b x,A b=some x->H b=none
theorem aA.Mm (H:aA):H.add aA.none=H:=rfl
abbrev jX:=@aA.Mm
theorem aA.RQ (H:aA)(b:Nat)(x:cY):H.add (aA.none.aU b x)=H.aU b x:=funext λc=>by
 by_cases h:c=b
 ·subst h;simp [aA.add,aK]
 ·simp [aA.add,aJ h,aA.none]
abbrev kI:=@aA.RQ
theorem jn.none (H:aA):jn aA.none H:=λb x h=>by cases h
abbrev nt:=@jn.none
theorem oO {x:cY}(h:H b=none):jn (aA.none.aU b x) H:=λc y e=>by
 by_cases a:c=b
 ·subst a;exact h
 ·rw[aJ a] at e;cases e
theorem jS {x:cY}:jn (aA.none.aU b x) H↔H b=none:=⟨λh=>h b x (aK _ _ _),oO⟩
theorem aA.Wm (h:jn A H):H.le (H.add A):=λb x e=>by
 unfold aA.add;cases ha:A b with
 |none=>exact e
 |some y=>rw[h b y ha] at e;cases e
abbrev tR:=@aA.Wm
theorem xn (h:jn B (H.add A)):jn B H:=λb x e=>by
 have:=h b x e;unfold aA.add at this;cases ha:A b with
 |none=>rw[ha] at this;exact this
 |some y=>rw[ha] at this;cases this
theorem CJ (c:jn A H)(h:jn B (H.add A)):jn A (H.add B):=λb x e=>by
 have a:=c b x e;unfold aA.add;cases hb:B b with
 |none=>exact a
 |some y=>
  have:=h b y hb
  unfold aA.add at this
  rw[e] at this
  cases this
theorem K1 (h:jn B (H.add A)):(H.add A).add B=(H.add B).add A:=funext λc=>by
 unfold aA.add;cases hb:B c with
 |none=>rfl
 |some y=>
  have:=h c y hb
  unfold aA.add at this
  cases ha:A c with
  |none=>rfl
  |some z=>rw[ha] at this;cases this
def cP (P:Program) (f:FuncId) (args:List D) (H:aA) (G:D->aA->Prop):Prop:=
 ∀a,H.le a->aN P f args a λd H'=>∃A,jn A a/\H'=a.add A/\G d A
def dh (P:Program) (G:Option Tmp->List D->D->aA->Prop) (H:aA) (s:St) (o:Oper) (K:D->aA->Prop):Prop:=
 match o.op with
 | .move x| .assign x=>K (s.ev x) .none
 | .pick c x y=>(match s.ev c with
  | .val (.bool b)=>qj b (K (s.ev x) .none) (K (s.ev y) .none)
  |_=>False)
 | .box t x=>(match (s.ev x).cells with
  |some cs=>∀b,K (.ep b 0 cs.length 0 0) (aA.none.aU b (.row t 0 cs.length [cs]))
  |none=>False)
 | .build t r=>B3 P t (s.parts r) λd=>K d .none
 | .buildSlice t n r=>(match cG P t with
  |some ⟨.slice e,_,_,_⟩=>(match cG P e with
   |some ⟨_,k,_,some h⟩=>h.length=k/\(s.parts r).length=n/\n * k<=16777216/\(match jd k (s.parts r) 0 with
    |some u=>K (if n=0 then .Ep else .seq k u) .none
    |none=>False)
   |_=>False)
  |_=>False)
 | .load t x=>sL P H t (s.ev x) λd=>K d .none
 | .nilCheck x=>Ba (s.ev x) λd=>K d .none
 | .binOp v t x y _=>od P v t (s.ev x) (s.ev y) λd=>K d .none
 | .unOp v _ x=>Bj v (s.ev x) λd=>K d .none
 | .convert a b x=>wX P H a b (s.ev x) λd=>K d .none
 | .makeFunc (.func f) first m=>first.toList=[]/\K (.fn f (s.rh m)) .none
 | .slice t x z w E=>Be P H t (s.ev x) (z.map s.ev) (w.map s.ev) (E.map s.ev) λd=>K d .none
 | .fieldAddr t x f=>B6 P t (s.ev x) f λd=>K d .none
 | .field t x f=>gU P t (s.ev x) f λd=>K d .none
 | .indexAddr t x i=>B7 P H t (s.ev x) (s.ev i) λd=>K d .none
 | .index t x i=>B8 P t (s.ev x) (s.ev i) λd=>K d .none
 | .extract x i=>B5 (s.ev x) i λd=>K d .none
 | .call c=>(match c.callee with
  | .value f=>(match s.ev f with
   | .fn g m=>cP P g (s.rh c.args++m) H (G o.dst (s.rh c.args++m))/\∀d A,G o.dst (s.rh c.args++m) d A->K d A
   |_=>False)
  | .builtin .len=>(match c.argTypes.toList,s.rh c.args with
   |[t],[x]=>nZ P H t x λd=>K d .none
   |_,_=>False)
  | .builtin .min=>pY (s.rh c.args) λd=>K d .none
  | .builtin .max=>pX (s.rh c.args) λd=>K d .none
  |_=>False)
 | .lookup t x i ok=>yk P H t (s.ev x) (s.ev i) ok λd=>K d .none
 | .alloc t=>(match cG P t with
  |some ⟨_,_,_,some h⟩=>h.all Value.oneCell'=true/\∀b,K (.ep b 0 h.length 0 0) (aA.none.aU b (.row t 0 h.length [h.map .val]))
  |_=>False)
 | .makeSlice t n c=>(match s.ev n,s.ev c,cG P t with
  | .val (.int _ l),.val (.int _ c),some ⟨.slice e,_,_,_⟩=>(match cG P e with
   |some ⟨_,k,I,some h⟩=>h.length=k/\h.all Value.oneCell'=true/\0<=l/\l<=c/\(I:Int) * c<=281474976710656/\c<=9223372036854775807/\
    ∀b,K (.os b 0 k 0 l.toNat) (aA.none.aU b (.row e 0 k (List.replicate l.toNat (h.map .val))))
   |_=>False)
  |_,_,_=>False)
 | .makeMap _ none=>∀b,K (.val (.map (some b))) (aA.none.aU b (.map []))
 |_=>False
def Gt (F:(D->aA->Prop)->Prop):Prop:=∀K,F K->F λd A=>∀a,F a->a d A
def uF (F:(D->aA->Prop)->Prop):Prop:=∀K a:D->aA->Prop,(∀d A,K d A->a d A)->F K->F a
theorem gi {G:(D->Prop)->Prop}(h:r9 G):Gt (λK=>G λd=>K d .none)/\uF (λK=>G λd=>K d .none):=by
 obtain⟨p,d,a⟩:=h;refine⟨λK c=>?_,λK f g c=>?_⟩
 ·exact(a _).2 ⟨((a _).1 c).1,λf e=>((a _).1 e).2⟩
 ·have:=(a _).1 c
  exact(a _).2 ⟨this.1,g _ _ this.2⟩
theorem xW (d:D)(A:aA):Gt (λK=>K d A)/\uF (λK=>K d A):=⟨λK c e a=>a,λK e f c=>f _ _ c⟩
theorem bd:Gt (λ_=>False)/\uF (λ_=>False):=⟨λK a=>a,λK c _ a=>a⟩
theorem cW {p:Prop}{F:(D->aA->Prop)->Prop}(h:p->Gt F/\uF F):Gt (λK=>p/\F K)/\uF (λK=>p/\F K):=
 ⟨λK ⟨a,c⟩=>⟨a,(h a).2 _ _ (λd A g f e=>g f e.2) ((h a).1 K c)⟩,λK f k ⟨a,c⟩=>⟨a,(h a).2 _ _ k c⟩⟩
theorem vH (P:Program)(G:Option Tmp->List D->D->aA->Prop)(H:aA)(s:St)(o:Oper):Gt (dh P G H s o)/\uF (dh P G H s o):=by
 unfold dh;split
 ·exact xW _ _
 ·exact xW _ _
 ·split
  ·rename_i b _
   simp only[Aw];cases b
   ·exact⟨λK c=>⟨λh=>(by cases h),λ_ e a=>a.2 rfl⟩,λK e f c=>⟨λh=>(by cases h),λ_=>f _ _ (c.2 rfl)⟩⟩
   ·exact⟨λK c=>⟨λ_ e a=>a.1 rfl,λh=>(by cases h)⟩,λK e f c=>⟨λ_=>f _ _ (c.1 rfl),λh=>(by cases h)⟩⟩
  ·exact bd
 ·split
  ·exact⟨λK c b e a=>a b,λK e f c b=>f _ _ (c b)⟩
  ·exact bd
 ·exact gi (DW _ _ _)
 ·split
  ·split
   ·refine cW λ_=>cW λ_=>cW λ_=>?_
    split
    ·exact xW _ _
    ·exact bd
   ·exact bd
  ·exact bd
 ·exact gi (D5 _ _ _ _)
 ·exact gi (D6 _)
 ·exact gi (zx _ _ _ _ _)
 ·exact gi (D8 _ _)
 ·exact gi (DX _ _ _ _ _)
 ·exact cW λ_=>xW _ _
 ·exact gi (D7 _ _ _ _ _ _ _)
 ·exact gi (DZ _ _ _ _)
 ·exact gi (uN _ _ _ _)
 ·exact gi (D2 _ _ _ _ _)
 ·exact gi (D4 _ _ _ _)
 ·exact gi (DY _ _)
 ·split
  ·split
   ·exact⟨λK c=>⟨c.1,λd A h e a=>a.2 d A h⟩,λK e f c=>⟨c.1,λd A h=>f _ _ (c.2 d A h)⟩⟩
   ·exact bd
  ·split
   ·exact gi (zy _ _ _ _)
   ·exact bd
  ·exact gi (AA _)
  ·exact gi (zz _)
  ·exact bd
 ·exact gi (Iu _ _ _ _ _ _)
 ·split
  ·exact cW λ_=>⟨λK c b e a=>a b,λK e f c b=>f _ _ (c b)⟩
  ·exact bd
 ·split
  ·split
   ·exact cW λ_=>cW λ_=>cW λ_=>cW λ_=>cW λ_=>cW λ_=>⟨λK c b e a=>a b,λK e f c b=>f _ _ (c b)⟩
   ·exact bd
  ·exact bd
 ·exact⟨λK c b e a=>a b,λK e f c b=>f _ _ (c b)⟩
 ·exact bd
def mG (P:Program) (G:Option Tmp->List D->D->aA->Prop) (H:aA) (aY:Array Oper) (s:St) (o:Oper) (K:D->aA->Prop):Prop:=
 match o.guard with
 |none=>dh P G H s o K
 |some (j,a)=>(match j9 aY j with
  |some t=>(match s.fr t with
   | .val (.bool b)=>qj (b==a) (dh P G H s o K) (K (.val undef) .none)
   | .val (.tuple ⟨[]⟩)=>K (.val undef) .none
   |_=>False)
  |none=>False)
theorem sJ (P:Program)(G:Option Tmp->List D->D->aA->Prop)(H:aA)(aY:Array Oper)(s:St)(o:Oper):Gt (mG P G H aY s o)/\uF (mG P G H aY s o):=by
 unfold mG;split
 ·exact vH P G H s o
 ·split
  ·split
   ·rename_i a _ _ _ _ _ b _
    simp only[oY];obtain⟨n,m⟩:=vH P G H s o;by_cases e:b=a
    ·have g:¬b= !a:=by cases b <;> cases a <;> simp at e ⊢
     exact⟨λK f=>⟨λ_=>m _ _ (λd A r k c=>r k (c.1 e)) (n K (f.1 e)),λh=>absurd h g⟩,λK k l f=>⟨λ_=>m _ _ l (f.1 e),λh=>absurd h g⟩⟩
    ·have g:b= !a:=by cases b <;> cases a <;> simp at e ⊢
     exact⟨λK f=>⟨λh=>absurd h e,λ_ k c=>c.2 g⟩,λK k l f=>⟨λh=>absurd h e,λ_=>l _ _ (f.2 g)⟩⟩
   ·exact xW _ _
   ·exact bd
  ·exact bd
def St.out (s:St) (o:Oper) (d:D) (A:aA):St:=(s.cJ (s.H.add A)).put o.dst d
def yx (P:Program) (G:Option Tmp->List D->D->aA->Prop) (H:aA) (aY:Array Oper) (Q:St->Prop):List Oper->St->Prop
 |[],s=>Q s
 |o::a,s=>mG P G H aY s o λd A=>jn A s.H->yx P G H aY Q a (s.out o d A)
def G3:Operand->List Tmp
 | .tmp t=>[t]
 |_=>[]
def Oper.reads (aY:Array Oper) (o:Oper):List Tmp:=o.op.operands.toList.flatMap G3++(match o.guard with
 |some (j,_)=>(j9 aY j).toList
 |none=>[])
def ot (aY:Array Oper) (p o:Oper):Prop:=
 (∀t,p.dst=some t->t∉Oper.reads aY o/\o.dst≠some t)/\(∀t,o.dst=some t->t∉Oper.reads aY p)
theorem Ug {x:Operand}(h:∀t∈G3 x,s'.fr t=s.fr t):s'.ev x=s.ev x:=by cases x <;> first|rfl|exact h _ (by simp [G3])
theorem R3 {G:Option Tmp -> List D -> D -> aA -> Prop}(h : ∀ t ∈ o.op.operands.toList.flatMap G3, s'.fr t = s.fr t) : dh P G H s' o = dh P G H s o := by
  have a : ∀ x ∈ o.op.operands.toList, s'.ev x = s.ev x := λx hx => Ug λt L => h t (la.2 ⟨x, hx, L⟩);funext K;unfold dh;have em : ∀ l : Array Operand, (∀ x ∈ l.toList, x ∈ o.op.operands.toList) -> s'.rh l = s.rh l := λl hx => by
    unfold St.rh;exact pf λx v => a x (hx x v)
  have g : ∀ x : Option Operand, (∀ y, x = some y -> y ∈ o.op.operands.toList) -> x.map s'.ev = x.map s.ev := λx hx => by
    cases x with
    | none => rfl
    | some y => exact ai some (a y (hx y rfl))
  cases ho : o.op <;> rw [ho] at a em g <;> simp only [Op.operands] at a em g ⊢
  case build t k =>
    have : s'.parts k = s.parts k := by
      unfold St.parts;exact pf λp u => by rw [a p.2 (cD.2 ⟨p, u, rfl⟩)]
    rw [this]
  case buildSlice t n k =>
    have : s'.parts k = s.parts k := by
      unfold St.parts;exact pf λp u => by rw [a p.2 (cD.2 ⟨p, u, rfl⟩)]
    rw [this]
  case makeFunc I first w =>
    have z := em w (λx hx => by simp; exact .inr (by simpa using hx));cases I <;> simp only [z]
  case slice t x M J N =>
    rw [a x (by simp), g M (λy e => by subst e; simp), g J (λy e => by subst e; simp), g N (λy e => by subst e; simp)]
  case call c =>
    have m : s'.rh c.args = s.rh c.args := em _ λx hx => by simp [Call.operands]; exact .inr (by simpa using hx)
    cases hc : c.callee with
    | value f =>
      have E : s'.ev f = s.ev f := a f (by simp [Call.operands, hc])
      simp only [m, E]
    | builtin b =>
      simp only [m]
      cases b <;> rfl
    | invoke r n => simp only [m]
  case makeMap t n => cases n <;> rfl
  all_goals first
    | rfl
    | (simp only [List.mem_toArray, bV, List.not_mem_nil, or_false, forall_eq_or_imp, forall_eq] at a
       first | rw [a] | simp only [a])
theorem yV {G:Option Tmp->List D->D->aA->Prop}(h:∀t∈Oper.reads aY o,s'.fr t=s.fr t):mG P G H aY s' o=mG P G H aY s o:=by
 have c:dh P G H s' o=dh P G H s o:=R3 λt e=>h t (bB.2 (.inl e));funext K;unfold mG;rw[c];cases hg:o.guard with
 |none=>rfl
 |some g=>
  obtain⟨j,a⟩:=g
  simp only
  cases hj:j9 aY j with
  |none=>rfl
  |some t=>
   have:s'.fr t=s.fr t:=h t (bB.2 (.inr (by simp [hg,hj])))
   simp only[this]
theorem iH (h:o.dst≠some t):(s.out o d A).fr t=s.fr t:=by
 unfold St.out St.put;cases ho:o.dst with
 |none=>rfl
 |some u=>
  rw[ho] at h
  simp only
  rw[aC (λe=>h (by rw[e]))]
  rfl
theorem jv (s:St)(o:Oper)(d:D)(A:aA):(s.out o d A).H=s.H.add A:=by unfold St.out;rw[iN];rfl
theorem Ac {a:aA}(k:∀t,p.dst=some t->o.dst≠some t)(h:jn a (s.H.add A)):(s.out o d A).out p dp a=(s.out p dp a).out o d A:=by
 have g:((s.out o d A).out p dp a).H=((s.out p dp a).out o d A).H:=by rw[jv,jv,jv,jv,K1 h]
 have l:((s.out o d A).out p dp a).fr=((s.out p dp a).out o d A).fr:=funext λt=>by
  by_cases f:p.dst=some t
  ·have e:=k t f
   rw[iH (o:=o) e];unfold St.out St.put;rw[f];simp
  ·rw[iH (o:=p) f]
   by_cases e:o.dst=some t
   ·unfold St.out St.put
    rw[e];simp
   ·rw[iH e,iH e,iH f]
 have c:((s.out o d A).out p dp a).df=((s.out p dp a).out o d A).df:=by
  unfold St.out;simp only[u5,qN]
 cases h1:(s.out o d A).out p dp a;cases h2:(s.out p dp a).out o d A;rw[h1,h2] at g l c;simp only at g l c;subst g l c;rfl
theorem xZ {G:Option Tmp->List D->D->aA->Prop}{Q:St->Prop}{d:D}{A:aA}:∀{c post:List Oper}{s:St},(∀p∈c,ot aY p o)->yx P G H aY Q (c++o::post) s->
  (∀K,mG P G H aY s o K->K d A)->jn A s.H->yx P G H aY Q (c++post) (s.out o d A)
 |[],post,s,_,h,aEF,hA=>by
  simp only[cz,yx] at h ⊢;exact aEF _ h hA
 |p::c,post,s,hi,h,aEF,hA=>by
  simp only[dJ,yx] at h ⊢;obtain⟨hu,hm⟩:=sJ P G H aY s p;have f:=hi p (by simp);have n:mG P G H aY (s.out o d A) p=mG P G H aY s p:=yV λt g=>iH λe=>(f.2 t e) g;rw[n];refine hm _ _ (λdp m l a=>?_) (hu _ h);have r:=l _ h;rw[jv] at a;have u:=r (xn a);rw[Ac (λt g=>(f.1 t g).2) a];have k:mG P G H aY (s.out p dp m) o=mG P G H aY s o:=yV λt g=>iH λe=>(f.1 t e).1 g;refine xZ (λq v=>hi q (by simp [v])) u (by rw[k];exact aEF) ?_;rw[jv];exact CJ hA a
theorem r9.mono {F:(D->Prop)->Prop}(h:r9 F){K a:D->Prop}(hk:∀d,K d->a d)(hf:F K):F a:=by
 obtain⟨p,d,c⟩:=h;have:=(c K).1 hf;exact(c a).2 ⟨this.1,hk d this.2⟩
theorem HE {G:Option Tmp->List D->D->aA->Prop}{K:D->aA->Prop}(T:H.le s.H)(hd:qP cx.n o.dst)(h:dh cx.P G H s o K):
  WO cx o (λs'=>∃d A,K d A/\jn A s.H/\s'=s.out o d A) s:=by
 have k:∀{d:D},K d .none->∃d' A,K d' A/\jn A s.H/\s.put o.dst d=s.out o d' A:=λ{d} u=>⟨d,.none,u,nt _,rfl⟩;have yZ:cU cx o s (λs'=>∃d A,K d A/\jn A s.H/\s'=s.out o d A)->WO cx o (λs'=>∃d A,K d A/\jn A s.H/\s'=s.out o d A) s:=kQ hd;unfold dh at h;split at h
 case h_1 x e=>exact yZ (by unfold cU;rw[e];exact k h)
 case h_2 x e=>exact yZ (by unfold cU;rw[e];exact k h)
 case h_3 c x y e=>
  refine yZ ?_;unfold cU;rw[e];split at h
  ·rename_i b v
   simp only[v];rw[Aw] at h ⊢;exact⟨λe=>k (h.1 e),λe=>k (h.2 e)⟩
  ·exact h.elim
 case h_4 t x e=>
  refine yZ ?_;unfold cU;rw[e];simp only[DE];split at h
  ·rename_i cs I
   simp only[I];exact λb v=>⟨_,_,h b,oO v,by unfold St.out;rw[kI]⟩
  ·exact h.elim
 case h_5 t ps e=>exact yZ (by unfold cU;rw[e];exact(DW _ _ _).mono (λd u=>k u) h)
 case h_6 t n ps e=>
  split at h
  ·rename_i el _ _ _ hT
   split at h
   ·rename_i dE N aa zs hE
    obtain⟨a8,cd,a2,h⟩:=h;split at h
    ·rename_i E S
     refine mJ (by simp [e]) hd λa w m=>?_;have v:BR cx.P s.H t n (s.parts ps) (λd H'=>∃b,s.H b=none/\d=.os b 0 N 0 n/\H'=s.H.aU b (.row el 0 N E)):=by
      unfold BR;simp only[hT,hE,S];exact⟨a8,cd,a2,λb v=>⟨b,v,rfl,rfl⟩⟩
     obtain⟨r,d',w',H',h1,V,Z,h4,⟨b,a0,rfl,rfl⟩,A0,a7⟩:=GO m.H v (m.Ag ps);have a1:E.length=n:=by
      have:=(u6 S (m.Ag ps)).1;omega
     have z:s.H.le (s.H.aU b (.row el 0 N E)):=j5 (aF _) a0;by_cases M:n=0
     ·rw[aD M] at h
      refine⟨r,w',.Ep,s.H,?_,?_,Z.less z,h4.less z,⟨_,.none,h,nt _,rfl⟩⟩
      ·simp only[execOp,e,Sem.run_bind,h1,Result.andThen,Sem.run_pure]
      ·simp only[D.is]
       exact⟨A0,by rw[a7,M]⟩
     rw[aC M] at h;have a3:gy (s.H.aU b (.row el 0 N E)) N (.os b 0 N 0 n) (λl=>l=E):=by
      simp only[gy,aK];exact⟨trivial,trivial,trivial,by omega,by rw[dj,<-a1,dI]⟩
     obtain⟨l,A,c,rfl,rfl,a6,L⟩:=pz Z a3 V;refine⟨.slice A l.length c,w',.seq N l,s.H,?_,?_,Z.less z,h4.less z,⟨_,.none,h,nt _,rfl⟩⟩
     ·simp only[execOp,e,Sem.run_bind,h1,Result.andThen,Sem.run_pure]
     ·simp only[D.is]
      refine⟨A,c,rfl,a6,?_⟩;rcases L with L|⟨b',o',rfl,a5,hr⟩
      ·exact .inl L
      ·by_cases hn:l=[]
       ·exact .inl hn
       ·right
        refine⟨b',o',rfl,?_,a5,?_⟩
        ·simp only[D.is] at V
         obtain⟨A2,c2,e2,_,J⟩:=V;injection e2 with R e4 e5
         have a9:0<n:=by
          rcases l with _|⟨_,_⟩
          ·exact absurd rfl hn
          ·simp at a1;omega
         rcases J with J|⟨J,_⟩
         ·omega
         ·rw[J] at R
          injection R with R
          injection R with R
          subst R;exact a0
        ·exact dV λi a4 hi=>by
          obtain⟨g1,g2⟩:=ca hr i a4 hi;refine⟨g1,?_⟩;obtain⟨vs,g3,g4⟩:=cf g2;exact dD (bO (kK z w') _ g3) g4
    ·exact h.elim
   ·exact h.elim
  ·exact h.elim
 case h_7 t x e=>exact yZ (by unfold cU;rw[e];exact(D5 _ _ _ _).mono (λd u=>k u) (Wl T h))
 case h_8 x e=>exact yZ (by unfold cU;rw[e];exact(D6 _).mono (λd u=>k u) h)
 case h_9 op t x y _ e=>exact yZ (by unfold cU;rw[e];exact Vh ((zx _ _ _ _ _).mono (λd u=>k u) h))
 case h_10 op _ x e=>exact yZ (by unfold cU;rw[e];exact(D8 _ _).mono (λd u=>k u) h)
 case h_11 a b x e=>exact yZ (by unfold cU;rw[e];exact NQ <| (DX _ _ _ _ _).mono (λd u=>k u) (WD T h))
 case h_12 f first bc e=>exact yZ (by
  unfold cU;rw[e];have h0:s.rh first=[]:=by have:first= #[]:=gm (by simpa using h.1);subst this;rfl
  simp only[h0];exact k h.2)
 case h_13 t x lo hi mx e=>exact yZ (by unfold cU;rw[e];exact(D7 _ s.H _ _ _ _ _).mono (λd u=>k u) h)
 case h_14 t x f e=>exact yZ (by unfold cU;rw[e];exact(DZ _ _ _ _).mono (λd u=>k u) h)
 case h_15 t x f e=>exact yZ (by unfold cU;rw[e];exact(uN _ _ _ _).mono (λd u=>k u) h)
 case h_16 t x i e=>exact yZ (by unfold cU;rw[e];exact(D2 _ s.H _ _ _).mono (λd u=>k u) h)
 case h_17 t x i e=>exact yZ (by unfold cU;rw[e];exact(D4 _ _ _ _).mono (λd u=>k u) h)
 case h_18 x i e=>exact yZ (by unfold cU;rw[e];exact(DY _ _).mono (λd u=>k u) h)
 case h_19 c e=>
  refine yZ ?_;unfold cU;rw[e];simp only[DJ];split at h
  ·rename_i f I
   simp only[I];split at h
   ·rename_i g bc hf
    simp only[hf];refine(h.1 s.H T).mono ?_;rintro d H' ⟨A,hA,rfl,hG⟩;exact⟨d,A,h.2 d A hG,hA,rfl⟩
   ·exact h.elim
  ·rename_i I
   simp only[I,ze];split at h
   ·rename_i t x ht hx
    simp only[hx,ht];exact(zy _ _ _ _).mono (λd u=>k u) (Sc T h)
   ·exact h.elim
  ·rename_i I
   simp only[I,ze];exact(AA _).mono (λd u=>k u) h
  ·rename_i I
   simp only[I,ze];exact(zz _).mono (λd u=>k u) h
  ·exact h.elim
 case h_20 t x i ok e=>exact yZ (by unfold cU;rw[e];exact(Iu _ _ _ _ _ _).mono (λd u=>k u) (Ws T h))
 case h_21 t e=>
  refine yZ ?_;unfold cU;rw[e];simp only[DB];split at h
  ·rename_i hT
   simp only[hT];exact⟨h.1,λb v=>⟨_,_,h.2 b,oO v,by unfold St.out;rw[kI]⟩⟩
  ·exact h.elim
 case h_22 t n c e=>
  refine yZ ?_;unfold cU;rw[e];simp only[EC];split at h
  ·rename_i hn I hT
   simp only[hn,I,hT];split at h
   ·rename_i hE
    simp only[hE];obtain⟨h1,V,Z,h4,h5,h6,h7⟩:=h;exact⟨h1,V,Z,h4,h5,h6,λb v=>⟨_,_,h7 b,oO v,by unfold St.out;rw[kI]⟩⟩
   ·exact h.elim
  ·exact h.elim
 case h_23 t e=>
  refine yZ ?_;unfold cU;rw[e];exact λb v=>⟨_,_,h b,oO v,by unfold St.out;rw[kI]⟩
 case h_24=>exact h.elim
theorem pA {G:Option Tmp->List D->D->aA->Prop}{aY:List Oper}{K:D->aA->Prop}(S:H.le s.H)(T:dQ cx.n aY=true)(ho:aY[i]?=some o)(h:mG cx.P G H aY.toArray s o K)
  {a:Act}{w:World}(m:bj cx s a w) {Q:Exit->Act->World->Prop}:
  wpOpIn (FR cx.ro) 9 cx.P aY.toArray Q i (λz E=>∃d A,K d A/\jn A s.H/\bj cx (s.out o d A) z E) a w:=by
 have v:∀u∈aY,qP cx.n u.dst:=λu k=>by
  have:=(dK.1 T) u k;unfold qP;cases hq:u.dst with
  |none=>trivial
  |some t=>rw[hq] at this;simpa using this
 have R:=v o (eh ho);have y:∀{K:D->aA->Prop},dh cx.P G H s o K->o.wpIn (FR cx.ro) 9 cx.P a w (λz E=>∃d A,K d A/\jn A s.H/\bj cx (s.out o d A) z E) Q:=λhc=>
  Oper.wpIn_mono (λz E ⟨s',m',d,A,V,Z,h3⟩=>⟨d,A,V,Z,h3▸m'⟩) (tD (HE S R hc a w m))
 have skip:K (.val undef) .none->∃d A,K d A/\jn A s.H/\bj cx (s.out o d A) (a.put o.dst undef) w:=λhk=>
  ⟨_,.none,hk,nt _,m.put (fI R) (by simp only[D.is])⟩
 unfold wpOpIn;have k:aY.toArray[i]?=some o:=by simpa using ho
 rw[k];simp only;unfold mG at h;split at h
 ·rename_i J
  have hw:Region.wanted o (yielded aY.toArray a.tmps)=true:=by simp [Region.wanted,J]
  rw[aD hw];exact y h
 ·rename_i j c J
  have f:Region.wanted o (yielded aY.toArray a.tmps)=(yielded aY.toArray a.tmps j==some c):=by unfold Region.wanted;rw[J]
  split at h
  ·rename_i t g
   have M:t<cx.n:=by
    unfold j9 at g;cases hj:aY.toArray[j]? with
    |none=>rw[hj] at g;cases g
    |some u=>
     rw[hj] at g
     have:=v u (by have:=tJ hj;simpa using this)
     simp at g
     rw[g] at this
     exact this
   have r:yielded aY.toArray a.tmps j=match a.tmps[t]? with|some (.bool b)=>some b|_=>none:=by
    unfold yielded;unfold j9 at g;rw[g];rfl
   have L:t<a.tmps.size:=by rw[m.n];exact M
   have x:a.tmps[t]?=some (a.tmps.getD t undef):=by simp [L]
   have l:=m.fr t;split at h
   ·rename_i b I
    rw[oY] at h;rw[I] at l;simp only[D.is] at l;rw[x,l] at r;simp only at r;rw[r] at f;by_cases e:b=c
    ·rw[aD (by rw[f,e];simp)]
     exact y (h.1 e)
    ·have N:b= !c:=by cases b <;> cases c <;> first|rfl|exact absurd rfl e
     rw[aC (by rw[f,N];cases c <;> simp)];exact⟨gw,skip (h.2 N)⟩
   ·rename_i I
    rw[I] at l;simp only[D.is] at l;rw[x,l] at r;simp only at r;rw[r] at f;rw[aC (by rw[f];simp)];exact⟨gw,skip h⟩
   ·exact h.elim
  ·exact h.elim
theorem MP {ro:Option Nat}{a:Act}{w:World}{K:Act -> World -> Prop}(h : o.wpIn (FR ro) 9 P a w K Qw) : ∃ y u, K y u := by
  have f : ∀ n, (FR ro).room n := λn d z => by cases z
  unfold Oper.wpIn at h;have k := h.2;generalize (o.semAt (FR ro).round a.eval).run P w = r at *;cases r with
  | ok x u =>
    cases x <;> simp only [Oper.uponIn] at k <;> first
      | exact ⟨_, _, k⟩
      | exact k.elim
      | (obtain ⟨e, l, E, g, _⟩ := k.2.2 [] (f _)
         cases e with
         | returned v => exact ⟨_, _, g⟩
         | panicked c => exact g.elim
         | outgrown => obtain ⟨_, _, m⟩ := g; exact m.elim)
      | (obtain ⟨v, l, g, _⟩ := k.2 default [] (f _)
         exact ⟨_, _, g⟩)
      | (obtain ⟨e, l, g, _⟩ := k.2.2 default [] (f _)
         cases e with
         | returned v => exact ⟨_, _, g⟩
         | panicked c => exact g.elim
         | outgrown => obtain ⟨_, _, m⟩ := g; exact m.elim)
  | halt x u => cases x <;> simp only [Oper.uponIn] at k <;> first | exact k.elim
theorem mw {ro:Option Nat}{a:Act}{w:World}{K:Act->World->Prop}(h:wpOpIn (FR ro) 9 P aY Qw i K a w):∃c e,K c e:=by
 unfold wpOpIn at h;split at h
 ·exact⟨_,_,h⟩
 ·split at h
  ·exact MP h
  ·exact⟨_,_,h.2⟩
theorem Ei {G:Option Tmp->List D->D->aA->Prop}{aY:List Oper}{Q:St->Prop}(g:dQ cx.n aY=true):∀{c post:List Oper}{s:St}{a:Act}{w:World},(∀p∈c,ot aY.toArray p o/\p∈aY)->yx cx.P G H aY.toArray Q (c++o::post) s->
  H.le s.H->bj cx s a w->mG cx.P G H aY.toArray s o λ_ _=>True
 |[],post,s,a,w,_,h,_,_=>by
  simp only[cz,yx] at h;exact(sJ _ _ _ _ _ _).2 _ _ (λ_ _ _=>trivial) h
 |p::c,post,s,a,w,hi,h,aM,m=>by
  simp only[dJ,yx] at h;obtain⟨i,f⟩:=pc (hi p (by simp)).2;obtain⟨z,E,d,A,u,k,y⟩:=mw (pA (Q:=Qw) aM g f h m);have l:=Ei g (λq v=>hi q (by simp [v])) (u k) (by rw[jv];exact iL aM (tR k)) y;have r:mG cx.P G H aY.toArray (s.out p d A) o=mG cx.P G H aY.toArray s o:=yV λt x=>iH λe=>((hi p (by simp)).1.1 t e).1 x;rw[r] at l;exact l
def ow (aY:List Oper):Bool:=
 aY.zipIdx.all λ(o,j)=>o.after.toList.all (λe=> !Region.binds .any e||decide (e.on<j))&&
  (aY.take j).zipIdx.all λ(p,i)=>
   o.after.toList.any (λe=>Region.binds .any e&&e.on==i)||
   ((match p.dst with
    |some t=> !(Oper.reads aY.toArray o).contains t&&o.dst != some t
    |none=>true)&&
   (match o.dst with
    |some t=> !(Oper.reads aY.toArray p).contains t
    |none=>true))
theorem jG {aY:List Oper}(h:ow aY=true)(ho:aY[j]?=some o):∀e∈o.after.toList,Region.binds .any e=true->e.on<j:=λe c a=>by
 have:=(dK.1 h) (o,j) (ui.2 (by simpa using ho));simp only[cX] at this;have:=(dK.1 this.1) e c;rw[a] at this;simpa using this
theorem sF {aY:List Oper}(h:ow aY=true)(c:i<j)(hp:aY[i]?=some p)(ho:aY[j]?=some o)(f:∀e∈o.after.toList,Region.binds .any e=true->e.on≠i):ot aY.toArray p o:=by
 have:=(dK.1 h) (o,j) (ui.2 (by simpa using ho));simp only[cX] at this;have:=(dK.1 this.2) (p,i) (ui.2 (by simp only[mP];rw[aD c];exact hp));simp only[rJ,cX] at this;rcases this with h1|⟨h1,h2⟩
 ·exfalso
  obtain⟨e,k,a⟩:=tO.1 h1;simp only[cX,rN] at a;exact f e k a.1 a.2
 ·refine⟨λt g=>?_,λt g=>?_⟩
  ·rw[g] at h1
   simpa using h1
  ·rw[g] at h2
   simpa using h2
theorem qd {e:Type}{r:e->e->Prop}{c post:List e}{x:e}(h:(c++x::post).Pairwise r):(∀y∈c,r y x)/\(∀y∈post,r x y)/\(c++post).Pairwise r:=by
 rw[nj,oa] at h;refine⟨λy k=>h.2.2 y k x (by simp),h.2.1.1,?_⟩;rw[nj];exact⟨h.1,h.2.1.2,λa f b g=>h.2.2 a f b (by simp [g])⟩
theorem Nd {G:Option Tmp->List D->D->aA->Prop}{H:aA}{aY:List Oper}{Q:Exit->St->Prop}(dC:dQ cx.n aY=true)(jr:ow aY=true):∀(g:Nat) (R:List Nat) (c:Array Bool) (s:St) (a:Act) (w:World),
  R.length<=g->R.Pairwise (·<·)->c.size=aY.length->(∀i,i∈R↔i<aY.length/\c.getD i true=false)->H.le s.H->bj cx s a w->yx cx.P G H aY.toArray (Q .normal) (R.filterMap (aY[·]?)) s->
  wpAnyIn (FR cx.ro) 9 cx.P .any aY.toArray (QQ cx Q) g c a w:=by
 have stuck:∀(R:List Nat) (c:Array Bool),R.Pairwise (·<·)->(∀i,i∈R↔i<aY.length/\c.getD i true=false)->c.size=aY.length->Region.ready .any aY.toArray c=[]->R=[]:=by
  intro R c I f ir hr;rcases R with _|⟨r,R⟩
  ·rfl
  ·exfalso
   have E:=(f r).1 (by simp);obtain⟨o,ho⟩:∃o,aY[r]?=some o:=⟨aY[r],by simp [E.1]⟩;have:r∈Region.ready .any aY.toArray c:=by
    unfold Region.ready;rw[fN];refine⟨by simp;exact E.1,?_⟩;have y:aY.toArray[r]?=some o:=by simpa using ho
    rw[E.2,y];simp only[jW,cV,gJ,rF];rw[<-wQ,dK];intro e he;cases hb:Region.binds .any e with
    |false=>simp
    |true=>
     have V:=jG jr ho e he hb
     have:¬e.on∈r::R:=λhm=>by
      rw[oa] at I;rcases bV.1 hm with h1|h1
      ·omega
      ·have:=I.1 _ h1;omega
     have v:c.getD e.on true=true:=by
      cases hl:c.getD e.on true with
      |true=>rfl
      |false=>exact absurd ((f e.on).2 ⟨by omega,hl⟩) this
     have h3:c.getD e.on false=true:=by
      have u:e.on<c.size:=by omega
      simp only[Array.getD,u,kL] at v ⊢;exact v
     simp [h3]
   rw[hr] at this;cases this
 intro g
 induction g with
 |zero=>
  intro R c s a w cd I ir f Z m h
  obtain rfl:R=[]:=cy (by omega)
  have a2:Region.ready .any aY.toArray c=[]:=by
   rw[Ek];intro i hi;unfold Region.ready at hi;rw[fN] at hi;have v:=hi.2;simp only[cX,mY] at v;exact absurd ((f i).2 ⟨by simpa using hi.1,v.1⟩) (by simp)
  exact⟨a2,s,m,by simpa [yx] using h⟩
 |succ g ih=>
  intro R c s a w cd I ir f Z m h
  refine⟨λhr=>?_,λi hi=>?_⟩
  ·obtain rfl:=stuck R c I f ir hr
   exact⟨s,m,by simpa [yx] using h⟩
  ·unfold Region.ready at hi
   rw[fN] at hi
   obtain⟨rV,x⟩:=hi
   have L:i<aY.length:=by simpa using rV
   obtain⟨o,ho⟩:∃o,aY[i]?=some o:=⟨aY[i],by simp [L]⟩
   have y:aY.toArray[i]?=some o:=by simpa using ho
   rw[y] at x
   simp only[cX,mY,gJ,rF] at x
   obtain⟨hl,K⟩:=x
   have a8:i∈R:=(f i).2 ⟨L,hl⟩
   obtain⟨l,post,rfl⟩:=zL a8
   obtain⟨J,a5,a9⟩:=qd I
   have M:∀p∈l.filterMap (aY[·]?),ot aY.toArray p o/\p∈aY:=λp z=>by
    obtain⟨k,N,T⟩:=List.mem_filterMap.1 z;refine⟨sF jr (J k N) T ho λe he hb a7=>?_,eh T⟩;rw[<-wQ,dK] at K;have:=K e he;rw[hb] at this;simp only[kF,nq] at this;have S:=(f k).1 (by simp [N]);rw[a7] at this;have u:k<c.size:=by omega
    simp only[Array.getD,u,kL] at this S;rw[S.2] at this;cases this
   have a3:(l++i::post).filterMap (aY[·]?)=l.filterMap (aY[·]?)++o::post.filterMap (aY[·]?):=by rw[pM,zJ,ho]
   rw[a3] at h
   have a6:=Ei dC M h Z m
   have a4:=(sJ cx.P G H aY.toArray s o).1 _ a6
   refine wpOpIn_mono ?_ (pA Z dC ho a4 m)
   rintro a' w' ⟨d,A,a1,hA,m'⟩
   have v:=xZ (λp z=>(M p z).1) h a1 hA
   refine ih (l++post) _ (s.out o d A) a' w' ?_ a9 (by simpa using ir) ?_ (by rw[jv];exact iL Z (tR hA)) m' (by rw[pM];exact v)
   ·simp at cd ⊢;omega
   ·intro k
    have N:=f k
    rw[bB,bV] at N
    rw[bB]
    have V:i<c.size:=by omega
    have a0:(c.setIfInBounds i true).getD k true=if k=i then true else c.getD k true:=qB _ _ _ _ _ V
    rw[a0]
    by_cases e:k=i
    ·subst e
     simp only[dN]
     constructor
     ·rintro(h3|h3)
      ·have:=J _ h3;omega
      ·have:=a5 _ h3;omega
     ·rintro⟨_,h3⟩;cases h3
    ·rw[aC e,<-N]
     constructor
     ·rintro(h3|h3)
      ·exact .inl h3
      ·exact .inr (.inr h3)
     ·rintro(h3|h3|h3)
      ·exact .inl h3
      ·exact absurd h3 e
      ·exact .inr h3
theorem mT {a c:Type}{f:a->Option c}{g:a->c}:∀{l:List a},(∀x∈l,f x=some (g x))->l.filterMap f=l.map g
 |[],_=>rfl
 |x::l,h=>by rw[zJ,h x (by simp),cC,mT λy hy=>h y (by simp [hy])]
theorem Cz {id:Nat}{aY:List Oper}{Q:Exit->St->Prop}{s:St}(G:Option Tmp->List D->D->aA->Prop)(hm:cx.P.follows .mixedOrders=true)(c:dQ cx.n aY=true)(f:ow aY=true)
  (h:yx cx.P G s.H aY.toArray (Q .normal) aY s):W cx (.region id aY.toArray true) Q s:=λa w m=>by
 refine wpIn_region_any hm ?_;have k:bj cx s a w.drew:=m.go (nV s.H w) m.H.drew;have e:(List.range aY.length).filterMap (aY[·]?)=aY:=by
  rw[mT (g:=λi=>aY.getD i default) λi hi=>by
   have:i<aY.length:=by simpa using hi
   simp [List.getD,this]]
  apply np;intro i;by_cases hi:i<aY.length
  ·simp [hi,List.getD]
  ·simp [hi]
 refine Nd c f _ (List.range aY.length) _ s a _ (by simp) tI (by simp) (λi=>?_) (aF _) k (by rw[e];exact h);simp only[ib,zN];constructor
 ·intro hi
  refine⟨hi,?_⟩;simp [Array.getD,hi]
 ·exact λh=>h.1
def uO (o:Oper):Bool:=match o.op with
 | .move _| .assign _| .pick _ _ _| .build _ _| .nilCheck _| .binOp _ _ _ _ _| .unOp _ _ _| .makeFunc (.func _) _ _| .fieldAddr _ _ _| .field _ _ _| .index _ _ _| .extract _ _=>true
 |_=>false
theorem Kd {G:Option Tmp->List D->D->aA->Prop}(hf:uO o=true):dh P G H s o=dh P G H' s o:=by
 unfold uO at hf;funext K;unfold dh;split at hf <;> first
  |(rename_i e;rw[e])
  |cases hf
theorem OA {G:Option Tmp->List D->D->aA->Prop}(hf:uO o=true):mG P G H aY s o=mG P G H' aY s o:=by
 unfold mG;rw[Kd hf]
theorem Ke {G:Option Tmp->List D->D->aA->Prop}{K:D->aA->Prop}(hf:uO o=true)(h:dh P G H s o K):dh P G H s o λd A=>A=.none/\K d A:=by
 unfold uO at hf;unfold dh at h ⊢;split at hf <;> (try(cases hf;done)) <;> (rename_i e;rw[e] at h ⊢;simp only at h ⊢)
 ·exact⟨trivial,h⟩
 ·exact⟨trivial,h⟩
 ·split at h
  ·rename_i b c
   rw[Aw] at h ⊢;exact⟨λe=>⟨trivial,h.1 e⟩,λe=>⟨trivial,h.2 e⟩⟩
  ·exact h.elim
 ·exact(DW _ _ _).mono (λd a=>⟨trivial,a⟩) h
 ·exact(D6 _).mono (λd a=>⟨trivial,a⟩) h
 ·exact(zx _ _ _ _ _).mono (λd a=>⟨trivial,a⟩) h
 ·exact(D8 _ _).mono (λd a=>⟨trivial,a⟩) h
 ·exact⟨h.1,trivial,h.2⟩
 ·exact(DZ _ _ _ _).mono (λd a=>⟨trivial,a⟩) h
 ·exact(uN _ _ _ _).mono (λd a=>⟨trivial,a⟩) h
 ·exact(D4 _ _ _ _).mono (λd a=>⟨trivial,a⟩) h
 ·exact(DY _ _).mono (λd a=>⟨trivial,a⟩) h
def fi (a:Option Tmp->Bool) (o:Oper):Bool:=match o.op with
 | .store _ _ _=>true
 | .mapUpdate _ _ _ _=>true
 | .call c=>(match c.callee with
  | .builtin .append=>true
  | .builtin .copy=>true
  | .value _=>a o.dst
  |_=>false)
 |_=>false
def F1 (fl:Option Tmp->Bool) (o:Oper):Bool:=fl o.dst&&(match o.op with
 | .load _ _| .convert _ _ _| .slice _ _ _ _ _| .indexAddr _ _ _| .buildSlice _ _ _=>true
 | .call c=>(match c.callee with
  | .builtin .len| .builtin .min| .builtin .max=>true
  |_=>false)
 |_=>false)
def ja (fl:Option Tmp->Bool) (o:Oper):Bool:=uO o||F1 fl o
def rP (fl:Option Tmp->Bool) (H:aA) (o:Oper):aA:=if F1 fl o=true then aA.none else H
theorem AN (h:H.le H'):(rP fl H o).le H':=by
 unfold rP;split
 ·exact pQ _
 ·exact h
theorem MN {c:Option Tmp->Bool}(h:fi c o=true):ja fl o=false:=by
 unfold fi at h;unfold ja uO F1;split at h
 ·rename_i e;rw[e];simp
 ·rename_i e;rw[e];simp
 ·rename_i e
  rw[e];split at h <;> first
   |(rename_i a;simp only[a,fq,Bool.or_false];done)
   |(cases h;done)
 ·cases h
theorem R4 {G:Option Tmp->List D->D->aA->Prop}{K:D->aA->Prop}(hf:F1 fl o=true)(h:dh P G H s o K):dh P G H s o λd A=>A=.none/\K d A:=by
 unfold F1 at hf;rw[cX] at hf;replace hf:=hf.2;unfold dh at h ⊢;split at hf
 ·rename_i e;rw[e] at h ⊢;simp only at h ⊢
  exact(D5 _ _ _ _).mono (λd f=>⟨trivial,f⟩) h
 ·rename_i e;rw[e] at h ⊢;simp only at h ⊢
  exact(DX _ _ _ _ _).mono (λd f=>⟨trivial,f⟩) h
 ·rename_i e;rw[e] at h ⊢;simp only at h ⊢
  exact(D7 _ _ _ _ _ _ _).mono (λd f=>⟨trivial,f⟩) h
 ·rename_i e;rw[e] at h ⊢;simp only at h ⊢
  exact(D2 _ _ _ _ _).mono (λd f=>⟨trivial,f⟩) h
 ·rename_i e;rw[e] at h ⊢;simp only at h ⊢
  revert h;split
  ·split
   ·rintro⟨a,b,c,h⟩
    refine⟨a,b,c,?_⟩;revert h;split
    ·exact λh=>⟨trivial,h⟩
    ·exact id
   ·exact id
  ·exact id
 ·rename_i c e
  rw[e] at h ⊢;simp only at h ⊢;split at hf
  ·rename_i g
   rw[g] at h ⊢;simp only at h ⊢;split at h
   ·exact(zy _ _ _ _).mono (λd f=>⟨trivial,f⟩) h
   ·exact h.elim
  ·rename_i g
   rw[g] at h ⊢;simp only at h ⊢;exact(AA _).mono (λd f=>⟨trivial,f⟩) h
  ·rename_i g
   rw[g] at h ⊢;simp only at h ⊢;exact(zz _).mono (λd f=>⟨trivial,f⟩) h
  ·cases hf
 ·cases hf
theorem zj {G:Option Tmp->List D->D->aA->Prop}{K:D->aA->Prop}(hf:ja fl o=true)(h:dh P G H s o K):dh P G H s o λd A=>A=.none/\K d A:=by
 unfold ja at hf;rw[rJ] at hf;rcases hf with hf|hf
 ·exact Ke hf h
 ·exact R4 hf h
theorem xB {G:Option Tmp->List D->D->aA->Prop}{K:D->aA->Prop}(hf:ja fl o=true)(h:mG P G (rP fl H o) aY s o K):mG P G (rP fl H o) aY s o λd A=>A=.none/\K d A:=by
 unfold mG at h ⊢;split at h
 ·exact zj hf h
 ·split at h
  ·split at h
   ·rw[oY] at h ⊢
    exact⟨λe=>zj hf (h.1 e),λe=>⟨rfl,h.2 e⟩⟩
   ·exact⟨rfl,h⟩
   ·exact h.elim
  ·exact h.elim
theorem xA {G:Option Tmp->List D->D->aA->Prop}(hf:ja fl o=true):mG P G (rP fl H o) aY s o=mG P G (rP fl H' o) aY s o:=by
 unfold rP;by_cases h:F1 fl o=true
 ·rw[aD h,aD h]
 ·rw[aC h,aC h]
  refine OA ?_;unfold ja at hf;rw[rJ] at hf;exact hf.resolve_right h
def jk (P:Program) (GW:Option Tmp->List D->aA->D->aA->Prop) (s:St) (o:Oper) (K:D->aA->Prop):Prop:=
 match o.op with
 | .store t x y=>BT P s.H t (s.ev x) (s.ev y) λH'=>K (.val undef) H'
 | .mapUpdate t x i y=>AX P s.H t (s.ev x) (s.ev i) (s.ev y) λH'=>K (.val undef) H'
 | .call c=>(match c.callee with
  | .builtin .append=>(match c.argTypes.toList,s.rh c.args with
   |[t,e],[x,y]=>(match cG P e with
    |some ⟨.int _,_,_,_⟩=>False
    |_=>Gz P s.H t e x y K)
   |_,_=>False)
  | .builtin .copy=>(match c.argTypes.toList,s.rh c.args with
   |[t,_],[x,y]=>oe P s.H t x y K
   |_,_=>False)
  | .value f=>(match s.ev f with
   | .fn g a=>aN P g (s.rh c.args++a) s.H (GW o.dst (s.rh c.args++a) s.H)/\∀d H',GW o.dst (s.rh c.args++a) s.H d H'->K d H'
   |_=>False)
  |_=>False)
 |_=>False
def gW (P:Program) (GW:Option Tmp->List D->aA->D->aA->Prop) (aY:Array Oper) (s:St) (o:Oper) (K:D->aA->Prop):Prop:=
 match o.guard with
 |none=>jk P GW s o K
 |some (j,a)=>(match j9 aY j with
  |some t=>(match s.fr t with
   | .val (.bool b)=>qj (b==a) (jk P GW s o K) (K (.val undef) s.H)
   | .val (.tuple ⟨[]⟩)=>K (.val undef) s.H
   |_=>False)
  |none=>False)
theorem ML {sz:Nat}{x:D}{F:List (List D)->(D->aA->Prop)->Prop}(h:∀els,Gt (F els)/\uF (F els)):Gt (λK=>gP H sz x λels=>F els K)/\uF (λK=>gP H sz x λels=>F els K):=by
 unfold gP;split
 ·exact cW λ_=>h _
 ·unfold gy
  split
  ·exact cW λ_=>h _
  ·split
   ·exact cW λ_=>cW λ_=>cW λ_=>cW λ_=>h _
   ·exact bd
  ·exact h _
  ·exact h _
  ·exact bd
theorem If (P:Program)(H:aA)(t xt:TypeId)(s x:D):Gt (Gz P H t xt s x)/\uF (Gz P H t xt s x):=by
 unfold Gz;split
 ·refine cW λ_=>?_
  split
  ·refine cW λ_=>cW λ_=>?_
   refine ML λk=>?_;split
   ·refine cW λ_=>⟨λK c=>⟨λe g a=>a.1 e,λe b f g a=>a.2 e b f⟩,λK g h c=>⟨λe=>h _ _ (c.1 e),λe b f=>h _ _ (c.2 e b f)⟩⟩
   ·refine cW λ_=>⟨λK c=>⟨λe g a=>a.1 e,λe b f g a=>a.2 e b f⟩,λK g h c=>⟨λe=>h _ _ (c.1 e),λe b f=>h _ _ (c.2 e b f)⟩⟩
   ·refine cW λ_=>cW λ_=>?_
    split
    ·exact cW λ_=>cW λ_=>cW λ_=>cW λ_=>⟨λK c b o f g a=>a b o f,λK g h c b o f=>h _ _ (c b o f)⟩
    ·exact bd
   ·refine cW λ_=>?_
    split
    ·exact cW λ_=>cW λ_=>cW λ_=>⟨λK c g a=>a,λK g h c=>h _ _ c⟩
    ·exact bd
   ·exact bd
  ·exact bd
 ·exact bd
theorem Js (P:Program)(H:aA)(t:TypeId)(x y:D):Gt (λK=>BT P H t x y λH'=>K (.val undef) H')/\uF (λK=>BT P H t x y λH'=>K (.val undef) H'):=by
 unfold BT;split
 ·refine cW λ_=>?_
  split
  ·refine cW λ_=>cW λ_=>?_
   split
   ·exact cW λ_=>⟨λK c e a=>a,λK e f c=>f _ _ c⟩
   ·exact bd
  ·exact bd
 ·exact bd
theorem Jd (P:Program)(H:aA)(t:TypeId)(x i y:D):Gt (λK=>AX P H t x i y λH'=>K (.val undef) H')/\uF (λK=>AX P H t x i y λH'=>K (.val undef) H'):=by
 unfold AX;split
 ·split
  ·exact cW λ_=>⟨λK c e a=>a,λK e f c=>f _ _ c⟩
  ·exact bd
 ·exact bd
theorem FK (P:Program)(H:aA)(t:TypeId)(x y:D):Gt (oe P H t x y)/\uF (oe P H t x y):=by
 unfold oe;exact bd
theorem BN (P:Program)(GW:Option Tmp->List D->aA->D->aA->Prop)(s:St)(o:Oper):Gt (jk P GW s o)/\uF (jk P GW s o):=by
 unfold jk;split
 ·exact Js _ _ _ _ _
 ·exact Jd _ _ _ _ _ _
 ·split
  ·split
   ·split
    ·exact bd
    ·exact If _ _ _ _ _ _
   ·exact bd
  ·split
   ·exact FK _ _ _ _ _
   ·exact bd
  ·split
   ·exact⟨λK a=>⟨a.1,λd A h e c=>c.2 d A h⟩,λK e f a=>⟨a.1,λd A h=>f _ _ (a.2 d A h)⟩⟩
   ·exact bd
  ·exact bd
 ·exact bd
theorem HS (P:Program)(GW:Option Tmp->List D->aA->D->aA->Prop)(aY:Array Oper)(s:St)(o:Oper):Gt (gW P GW aY s o)/\uF (gW P GW aY s o):=by
 unfold gW;split
 ·exact BN P GW s o
 ·split
  ·split
   ·rename_i a _ _ _ _ _ b _
    simp only[oY];obtain⟨n,m⟩:=BN P GW s o;by_cases e:b=a
    ·have g:¬b= !a:=by cases b <;> cases a <;> simp at e ⊢
     exact⟨λK f=>⟨λ_=>m _ _ (λd A r k c=>r k (c.1 e)) (n K (f.1 e)),λh=>absurd h g⟩,λK k l f=>⟨λ_=>m _ _ l (f.1 e),λh=>absurd h g⟩⟩
    ·have g:b= !a:=by cases b <;> cases a <;> simp at e ⊢
     exact⟨λK f=>⟨λh=>absurd h e,λ_ k c=>c.2 g⟩,λK k l f=>⟨λh=>absurd h e,λ_=>l _ _ (f.2 g)⟩⟩
   ·exact xW _ _
   ·exact bd
  ·exact bd
def St.jg (s:St) (o:Oper) (d:D) (H':aA):St:=(s.cJ H').put o.dst d
def ug (P:Program) (fl a:Option Tmp->Bool) (G:Option Tmp->List D->D->aA->Prop) (GW:Option Tmp->List D->aA->D->aA->Prop) (aY:Array Oper) (Q:St->Prop):aA->List Oper->St->Prop
 |_,[],s=>Q s
 |H,o::aDf,s=>if fi a o=true then gW P GW aY s o λd H'=>ug P fl a G GW aY Q H' aDf (s.jg o d H')
   else mG P G (rP fl H o) aY s o λd A=>jn A s.H->ug P fl a G GW aY Q H aDf (s.out o d A)
theorem U0 {GW:Option Tmp->List D->aA->D->aA->Prop}(e:s'.H=s.H)(h:∀t∈o.op.operands.toList.flatMap G3,s'.fr t=s.fr t):jk P GW s' o=jk P GW s o:=by
 have a:∀x∈o.op.operands.toList,s'.ev x=s.ev x:=λx hx=>Ug λt u=>h t (la.2 ⟨x,hx,u⟩);funext K;unfold jk;have em:∀g:Array Operand,(∀x∈g.toList,x∈o.op.operands.toList)->s'.rh g=s.rh g:=λg hx=>by
  unfold St.rh;exact pf λx k=>a x (hx x k)
 cases ho:o.op <;> rw[ho] at a em <;> simp only[Op.operands] at a em ⊢
 case store t x y=>rw[a x (by simp),a y (by simp),e]
 case mapUpdate t x i y=>rw[a x (by simp),a i (by simp),a y (by simp),e]
 case call c=>
  have l:s'.rh c.args=s.rh c.args:=em _ λx hx=>by simp [Call.operands];exact .inr (by simpa using hx)
  cases hc:c.callee with
  |value f=>
   have m:s'.ev f=s.ev f:=a f (by simp [Call.operands,hc])
   simp only[l,m,e]
  |builtin b=>
   simp only[l,e]
   cases b <;> rfl
  |invoke r n=>rfl
theorem OB {GW:Option Tmp->List D->aA->D->aA->Prop}(a:s'.H=s.H)(h:∀t∈Oper.reads aY o,s'.fr t=s.fr t):gW P GW aY s' o=gW P GW aY s o:=by
 have e:jk P GW s' o=jk P GW s o:=U0 a λt f=>h t (bB.2 (.inl f));funext K;unfold gW;rw[e,a];cases hg:o.guard with
 |none=>rfl
 |some g=>
  obtain⟨j,c⟩:=g
  simp only
  cases hj:j9 aY j with
  |none=>rfl
  |some t=>
   have:s'.fr t=s.fr t:=h t (bB.2 (.inr (by simp [hg,hj])))
   simp only[this]
theorem vj (h:o.dst≠some t):(s.jg o d A).fr t=s.fr t:=by
 unfold St.jg St.put;cases ho:o.dst with
 |none=>rfl
 |some u=>
  rw[ho] at h
  simp only
  rw[aC (λe=>h (by rw[e]))]
  rfl
theorem EM (s:St)(o:Oper)(d:D)(A:aA):(s.jg o d A).H=A:=by unfold St.jg;rw[iN];rfl
theorem C4 (g:∀t,p.dst=some t->o.dst≠some t):(s.out o d .none).jg p dp H'=(s.jg p dp H').out o d .none:=by
 have f:((s.out o d .none).jg p dp H').H=((s.jg p dp H').out o d .none).H:=by rw[EM,jv,EM,jX]
 have h:((s.out o d .none).jg p dp H').fr=((s.jg p dp H').out o d .none).fr:=funext λt=>by
  by_cases e:p.dst=some t
  ·have c:=g t e
   rw[iH (o:=o) c];unfold St.jg St.put;rw[e];simp
  ·rw[vj (o:=p) e]
   by_cases c:o.dst=some t
   ·unfold St.out St.put
    rw[c];simp
   ·rw[iH c,iH c,vj e]
 have a:((s.out o d .none).jg p dp H').df=((s.jg p dp H').out o d .none).df:=by
  unfold St.out St.jg;simp only[u5,qN]
 cases h1:(s.out o d .none).jg p dp H';cases h2:(s.jg p dp H').out o d .none;rw[h1,h2] at f h a;simp only at f h a;subst f h a;rfl
section
variable {P:Program}{fl wc:Option Tmp->Bool}{G:Option Tmp->List D->D->aA->Prop}{GW:Option Tmp->List D->aA->D->aA->Prop}{aY:Array Oper}{Q:St->Prop}
theorem s8 (h:ja fl o=true):fi wc o=false:=by
 cases e:fi wc o with
 |false=>rfl
 |true=>rw[MN e] at h;cases h
theorem BL {d:D}(hf:ja fl o=true):∀{f post:List Oper}{H:aA}{s:St},(∀p∈f,ot aY p o)->ug P fl wc G GW aY Q H (f++o::post) s->
  (∀K,mG P G (rP fl H o) aY s o K->K d .none)->ug P fl wc G GW aY Q H (f++post) (s.out o d .none)
 |[],post,H,s,_,h,aEF=>by
  simp only[cz,ug,s8 hf,ia,dY] at h ⊢;exact aEF _ h (nt _)
 |p::f,post,H,s,hi,h,aEF=>by
  have a:=hi p (by simp);simp only[dJ,ug] at h ⊢;split at h
  ·rename_i u
   rw[aD u];have m:gW P GW aY (s.out o d .none) p=gW P GW aY s p:=OB (by rw[jv,jX]) λt c=>iH λe=>(a.2 t e) c;rw[m];refine(HS P GW aY s p).2 _ _ (λdp H' n=>?_) h;rw[C4 λt c=>(a.1 t c).2];refine BL hf (λq r=>hi q (by simp [r])) n λK l=>aEF K ?_;have g:mG P G (rP fl H' o) aY (s.jg p dp H') o=mG P G (rP fl H' o) aY s o:=yV λt c=>vj λe=>(a.1 t e).1 c;rw[g,xA (H':=H) hf] at l;exact l
  ·rename_i u
   rw[aC u];obtain⟨y,x⟩:=sJ P G (rP fl H p) aY s p;have m:mG P G (rP fl H p) aY (s.out o d .none) p=mG P G (rP fl H p) aY s p:=yV λt c=>iH λe=>(a.2 t e) c;rw[m];refine x _ _ (λdp v n k=>?_) h;rw[jv,jX] at k;have w:=n k;rw[Ac (λt c=>(a.1 t c).2) (by rw[jX];exact k)];refine BL hf (λq r=>hi q (by simp [r])) w λK l=>aEF K ?_;have g:mG P G (rP fl H o) aY (s.out p dp v) o=mG P G (rP fl H o) aY s o:=yV λt c=>iH λe=>(a.1 t e).1 c;rwa[g] at l
theorem Gb {d:D}{H1:aA}(m:fi wc o=true):∀{a post:List Oper}{H:aA}{s:St},(∀p∈a,ot aY p o/\ja fl p=true)->ug P fl wc G GW aY Q H (a++o::post) s->
  (∀K,gW P GW aY s o K->K d H1)->ug P fl wc G GW aY Q H1 (a++post) (s.jg o d H1)
 |[],post,H,s,_,h,aEF=>by
  simp only[cz,ug,aD m] at h ⊢;exact aEF _ h
 |p::a,post,H,s,hi,h,aEF=>by
  obtain⟨c,f⟩:=hi p (by simp);simp only[dJ,ug,s8 f,ia,dY] at h ⊢;have n:mG P G (rP fl H1 p) aY (s.jg o d H1) p=mG P G (rP fl H1 p) aY s p:=yV λt g=>vj λe=>(c.2 t e) g;rw[n,xA (H':=H) f];refine(sJ P G (rP fl H p) aY s p).2 _ _ (λdp x l u=>?_) (xB f h);obtain⟨rfl,l⟩:=l;have r:=l (nt _);rw[<-C4 λt g e=>(c.1 t e).2 g];refine Gb m (λq w=>hi q (by simp [w])) r λK v=>aEF K ?_;have k:gW P GW aY (s.out p dp .none) o=gW P GW aY s o:=OB (by rw[jv,jX]) λt g=>iH λe=>(c.1 t e).1 g;rwa[k] at v
theorem Ga {d:D}{A:aA}(hc:fi wc o=false):∀{c post:List Oper}{H:aA}{s:St},(∀p∈c,ot aY p o/\fi wc p=false)->ug P fl wc G GW aY Q H (c++o::post) s->
  (∀K,mG P G (rP fl H o) aY s o K->K d A)->jn A s.H->ug P fl wc G GW aY Q H (c++post) (s.out o d A)
 |[],post,H,s,_,h,aEF,hA=>by
  simp only[cz,ug,hc,ia,dY] at h ⊢;exact aEF _ h hA
 |p::c,post,H,s,hi,h,aEF,hA=>by
  obtain⟨f,m⟩:=hi p (by simp);simp only[dJ,ug,m,ia,dY] at h ⊢;obtain⟨y,w⟩:=sJ P G (rP fl H p) aY s p;have r:mG P G (rP fl H p) aY (s.out o d A) p=mG P G (rP fl H p) aY s p:=yV λt g=>iH λe=>(f.2 t e) g;rw[r];refine w _ _ (λdp n l a=>?_) (y _ h);have u:=l _ h;rw[jv] at a;have v:=u (xn a);rw[Ac (λt g=>(f.1 t g).2) a];have k:mG P G (rP fl H o) aY (s.out p dp n) o=mG P G (rP fl H o) aY s o:=yV λt g=>iH λe=>(f.1 t e).1 g;refine Ga hc (λq x=>hi q (by simp [x])) v (by rw[k];exact aEF) ?_;rw[jv];exact CJ hA a
end
end Go.Proofs.YtffgfafbffdgaaaGreatDoor
