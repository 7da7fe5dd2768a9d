/- Lemmas and contracts of functions, several texts in one. -/
import Derived.Test.YtffgfafbffdgaaaGreatDoorR03
set_option maxRecDepth 100000
set_option maxHeartbeats 4000000
set_option linter.all false
namespace Go.Proofs.YtffgfafbffdgaaaGreatDoor
open Go.RowKit
variable {P:Program}{H H':aA}{w:World}{t ty:TypeId}{x y:D}{v:Value}{ts:Array TypeId}{vs:List Value}{s:St}{cx:Cx}{a:Act}{b k c sz:Nat}{op:BinOp}
def nZ (P:Program) (H:aA) (t:TypeId) (x:D) (K:D->Prop):Prop:=
 match cG P t with
 |some T=>(match T.d,x with
  | .slice _,.seq _ els=>K (.val (.int .i64 (els.length:Int)))
  | .slice _,.os _ _ _ _ n=>K (.val (.int .i64 (n:Int)))
  | .slice _,.val (.slice _ n _)=>K (.val (.int .i64 (n:Int)))
  | .slice _,.Ep=>K (.val (.int .i64 0))
  | .string,.val (.string s)=>K (.val (.int .i64 (s.size:Int)))
  | .array n _,_=>K (.val (.int .i64 (n:Int)))
  | .map _ _,.val (.map none)=>K (.val (.int .i64 0))
  | .map _ _,.val (.map (some b))=>(match H b with
   |some (.map m)=>K (.val (.int .i64 (m.length:Int)))
   |_=>False)
  |_,_=>False)
 |none=>False
theorem Ph (o:eF w H){K:D->Prop}(h:nZ P H t x K)(hx:D.is w H.others x v):∃u,(Builtin.len_ #[t] ty #[v]).run P w=.ok u w/\K (.val u):=by
 unfold nZ at h;split at h
 ·rename_i T p
  obtain⟨d,i,g,B,rfl⟩:=cZ p;simp only at h;split at h
  ·rename_i f
   cases d <;> simp [iI] at f
   simp only[D.is] at hx;obtain⟨A,c,rfl,_⟩:=hx;exact⟨_,by simp [Builtin.len_,bH g,goInt],h⟩
  ·rename_i f
   cases d <;> simp [iI] at f
   simp only[D.is] at hx;obtain⟨A,c,rfl,_⟩:=hx;exact⟨_,by simp [Builtin.len_,bH g,goInt],h⟩
  ·rename_i f
   cases d <;> simp [iI] at f
   have e:=cQ hx;subst e;exact⟨_,by simp [Builtin.len_,bH g,goInt],h⟩
  ·rename_i f
   cases d <;> simp [iI] at f
   simp only[D.is] at hx;obtain⟨A,rfl⟩:=hx;exact⟨.int .i64 0,by simp [Builtin.len_,bH g,goInt],h⟩
  ·rename_i f
   cases d <;> simp [iI] at f
   have e:=cQ hx;subst e;refine⟨_,?_,h⟩;unfold Builtin.len_;simp only[rB,lk,Sem.run_bind,bH g,Result.andThen,Sem.run_pure];rfl
  ·rename_i f
   cases d <;> simp [iI] at f
   obtain⟨rfl,rfl⟩:=f;exact⟨_,by simp [Builtin.len_,bH g,goInt],h⟩
  ·rename_i f
   cases d <;> simp [iI] at f
   have e:=cQ hx;subst e;exact⟨.int .i64 0,by simp [Builtin.len_,bH g,goInt],h⟩
  ·rename_i f
   cases d <;> simp [iI] at f
   have e:=cQ hx;subst e;split at h
   ·rename_i m r
    obtain⟨j,c,l,n,E⟩:=o _ _ r;have z:j.size=m.length:=by
     have:=ai List.length n;simpa using this
    refine⟨_,?_,h⟩;simp [Builtin.len_,bH g,getObj,Sem.run,l,goInt,z]
   ·exact h.elim
  ·exact h.elim
 ·exact h.elim
def pY (e:List D) (K:D->Prop):Prop:=
 match e with
 |[.val (.int k a),.val (.int _ b)]=>K (.val (.int k (min a b)))
 |_=>False
def pX (e:List D) (K:D->Prop):Prop:=
 match e with
 |[.val (.int k a),.val (.int _ b)]=>K (.val (.int k (max a b)))
 |_=>False
theorem Pk {S:Nat->Prop}{e:List D}{K:D->Prop}(h:pY e K)(hx:aT w S e vs):∃u,(Builtin.min_ ts ty ⟨vs⟩).run P w=.ok u w/\K (.val u):=by
 unfold pY at h;split at h
 ·rename_i k a f b
  simp only[aT,D.is] at hx;obtain⟨_,_,rfl,rfl,_,_,rfl,rfl,rfl⟩:=hx;refine⟨_,rfl,?_⟩;have:(if b<a then b else a)=min a b:=by split <;> omega
  rw[this];exact h
 ·exact h.elim
theorem Pj {S:Nat->Prop}{e:List D}{K:D->Prop}(h:pX e K)(hx:aT w S e vs):∃u,(Builtin.max_ ts ty ⟨vs⟩).run P w=.ok u w/\K (.val u):=by
 unfold pX at h;split at h
 ·rename_i k a f b
  simp only[aT,D.is] at hx;obtain⟨_,_,rfl,rfl,_,_,rfl,rfl,rfl⟩:=hx;refine⟨_,rfl,?_⟩;have:(if b>a then b else a)=max a b:=by split <;> omega
  rw[this];exact h
 ·exact h.elim
def Ba (x:D) (K:D->Prop):Prop:=
 match x with
 | .ep _ _ _ _ _| .rp _| .fn _ _=>K x
 |_=>False
theorem Tq {S:Nat->Prop}{g:Operand->Value}{o:Oper}{y:Operand}(e:o.op=.nilCheck y){K:D->Prop}(h:Ba x K)(hx:D.is w S x (g y)):(execOp g o).run P w=.ok (.value (g y)) w/\K x:=by
 unfold Ba at h;split at h
 ·simp only[D.is] at hx;exact⟨by simp only[execOp,e,hx];rfl,h⟩
 ·simp only[D.is] at hx;obtain⟨b,i,f,_⟩:=hx;exact⟨by simp only[execOp,e,f];rfl,h⟩
 ·simp only[D.is] at hx;obtain⟨vs,f,_⟩:=hx;exact⟨by simp only[execOp,e,f];rfl,h⟩
 ·exact h.elim
def B5 (x:D) (i:Nat) (K:D->Prop):Prop:=
 match x with
 | .eO e=>(match e[i]? with
  |some d=>K d
  |none=>False)
 |_=>False
theorem Tj {S:Nat->Prop}{i:Nat}{K:D->Prop}(h:B5 x i K)(hx:D.is w S x v):∃u d,(Instr.extract v i).run P w=.ok u w/\D.is w S d u/\K d:=by
 unfold B5 at h;split at h
 ·split at h
  ·rename_i d g
   simp only[D.is] at hx;obtain⟨vs,rfl,hx⟩:=hx;obtain⟨u,e,f⟩:=iO hx i d g;refine⟨u,d,?_,f,h⟩;unfold Instr.extract;simp only[rB,e];rfl
  ·exact h.elim
 ·exact h.elim
def Eo (P:Program) (H:aA) (t xt:TypeId) (s x:D) (K:D->aA->Prop):Prop:=False
theorem T8 (g:eF w H){xt ty:TypeId}{s:D}{u:Value}{K:D->aA->Prop}(h:Eo P H t xt s x K)(hs:D.is w H.others s v)(hx:D.is w H.others x u):
  ∃r f e H',(Builtin.append_ #[t,xt] ty #[v,u]).run P w=.ok r e/\D.is e H'.others f r/\eF e H'/\Ev H w H' e/\K f H':=by
 unfold Eo at h;exact h.elim
def FI (x:D) (K:D->Prop):Prop:=
 match x with
 | .val (.slice _ _ c)=>K (.val (.int .i64 (c:Int)))
 | .Ep=>K (.val (.int .i64 0))
 |_=>False
def St.rh (s:St) (e:Array Operand):List D:=e.toList.map s.ev
def St.parts (s:St) (ps:Array (Nat×Operand)):List (Nat×D):=ps.toList.map λp=>(p.1,s.ev p.2)
theorem bj.Db (m:bj cx s a w)(e:Array Operand):aT w s.H.others (s.rh e) (e.map a.eval).toList:=by
 unfold St.rh;rw[Array.toList_map]
 induction e.toList with
 |nil=>simp [aT]
 |cons x l f=>simp only[cC,aT];exact⟨_,_,rfl,m.nz x,f⟩
theorem bj.Ag (m:bj cx s a w)(ps:Array (Nat×Operand)):iu w s.H.others (s.parts ps) (ps.map λ(i,x)=>(i,a.eval x)).toList:=by
 unfold St.parts;rw[Array.toList_map]
 induction ps.toList with
 |nil=>simp [iu]
 |cons p l e=>
  obtain⟨i,x⟩:=p
  simp only[cC,iu]
  exact⟨_,_,rfl,m.nz x,e⟩
theorem bj.XE (m:bj cx s a w)(x:Option Operand):yB w s.H.others (x.map s.ev) (x.map a.eval):=by
 cases x with
 |none=>trivial
 |some x=>exact m.nz x
def ze (P:Program) (s:St) (b:Builtin) (args:List D) (ts:Array TypeId) (K:D->aA->Prop):Prop:=
 match b,args with
 | .append,[x,y]=>(match ts.toList with
  |[t,e]=>(match cG P e with
   |some ⟨.int _,_,_,_⟩=>Eo P s.H t e x y K
   |_=>Gz P s.H t e x y K)
  |_=>False)
 | .cap,[x]=>(match ts.toList with
  |[t]=>(match cG P t with
   |some ⟨.slice _,_,_,_⟩=>FI x λd=>K d s.H
   |_=>False)
  |_=>False)
 | .len,[x]=>(match ts.toList with
  |[t]=>nZ P s.H t x λd=>K d s.H
  |_=>False)
 | .min,xs=>pY xs λd=>K d s.H
 | .max,xs=>pX xs λd=>K d s.H
 | .clear,[x]=>(match ts.toList with
  |[t]=>rU P s.H t x K
  |_=>False)
 | .copy,[x,y]=>(match ts.toList with
  |[t,_]=>oe P s.H t x y K
  |_=>False)
 |_,_=>False
theorem Tc (n:eF w s.H){b:Builtin}{args:List D}{ty:TypeId}{cs:Array Bool}{K:D->aA->Prop}(h:ze P s b args ts K)(hx:aT w s.H.others args vs):
  ∃r m g H',(builtin b ts ty cs ⟨vs⟩).run P w=.ok (.value r) g/\D.is g H'.others m r/\eF g H'/\Ev s.H w H' g/\K m H':=by
 have f:∀{sm:Sem Value}{r:Value}{g:World},sm.run P w=.ok r g->(do pure (Next.value (<-sm)):Sem Next).run P w=.ok (.value r) g:=λh=>by simp only[Sem.run_bind,h,Result.andThen,Sem.run_pure]
 unfold ze at h;split at h
 ·split at h
  ·rename_i t xt Dl
   simp only[aT] at hx;obtain⟨v,_,rfl,l,u,_,rfl,B,rfl⟩:=hx;have e:ts= #[t,xt]:=gm (by simpa using Dl);subst e;split at h
   ·obtain⟨r,m,g,H',i,j,o,p,z⟩:=T8 (ty:=ty) n h l B
    exact⟨r,m,g,H',f i,j,o,p,z⟩
   ·obtain⟨r,m,g,H',i,j,o,p,z⟩:=T7 (ty:=ty) n h l B
    exact⟨r,m,g,H',f i,j,o,p,z⟩
  ·exact h.elim
 ·split at h
  ·rename_i t Dl
   split at h
   ·rename_i J
    obtain⟨I,M,G,L,E⟩:=cZ J;injection E with E
    cases I <;> simp [iI] at E
    simp only[aT] at hx;obtain⟨v,_,rfl,l,rfl⟩:=hx;have e:ts= #[t]:=gm (by simpa using Dl);subst e;unfold FI at h;split at h
    ·have e:=cQ l
     subst e;exact⟨_,_,w,s.H,f (by simp [Builtin.cap_,bH G,goInt]),lN _,n,dr _ _,h⟩
    ·simp only[D.is] at l
     obtain⟨A,rfl⟩:=l;exact⟨.int .i64 0,_,w,s.H,f (by simp [Builtin.cap_,bH G,goInt]),lN _,n,dr _ _,h⟩
    ·exact h.elim
   ·exact h.elim
  ·exact h.elim
 ·split at h
  ·rename_i t Dl
   simp only[aT] at hx;obtain⟨v,_,rfl,l,rfl⟩:=hx;have e:ts= #[t]:=gm (by simpa using Dl);subst e;obtain⟨u,i,j⟩:=Ph (ty:=ty) n h l;exact⟨u,_,w,s.H,f i,lN _,n,dr _ _,j⟩
  ·exact h.elim
 ·obtain⟨u,i,j⟩:=Pk (P:=P) (ts:=ts) (ty:=ty) h hx
  exact⟨u,_,w,s.H,f i,lN _,n,dr _ _,j⟩
 ·obtain⟨u,i,j⟩:=Pj (P:=P) (ts:=ts) (ty:=ty) h hx
  exact⟨u,_,w,s.H,f i,lN _,n,dr _ _,j⟩
 ·split at h
  ·rename_i t Dl
   simp only[aT] at hx;obtain⟨v,_,rfl,l,rfl⟩:=hx;have e:ts= #[t]:=gm (by simpa using Dl);subst e;obtain⟨r,m,g,H',i,j,o,p,z⟩:=Pe (ty:=ty) n h l;exact⟨r,m,g,H',f i,j,o,p,z⟩
  ·exact h.elim
 ·split at h
  ·rename_i t xt Dl
   simp only[aT] at hx;obtain⟨v,_,rfl,l,u,_,rfl,B,rfl⟩:=hx;have e:ts= #[t,xt]:=gm (by simpa using Dl);subst e;obtain⟨r,m,g,H',i,j,o,p,z⟩:=Pg (xt:=xt) (ty:=ty) n h l B;exact⟨r,m,g,H',f i,j,o,p,z⟩
  ·exact h.elim
 ·exact h.elim
def DJ (P:Program) (s:St) (c:Call) (K:D->aA->Prop) (other:Prop):Prop:=
 match c.callee with
 | .value f=>(match s.ev f with
  | .fn g e=>aN P g (s.rh c.args++e) s.H K
  | .fb g first e=>aN P g (first++(s.rh c.args++e)) s.H K
  |_=>other)
 | .builtin b=>ze P s b (s.rh c.args) c.argTypes K
 |_=>other
theorem lY {S:Nat->Prop}:∀{cs ds:List D}{vs us:List Value},aT w S cs vs->aT w S ds us->aT w S (cs++ds) (vs++us)
 |[],ds,vs,us,h,h'=>by simp only[aT] at h;subst h;exact h'
 |d::cs,ds,vs,us,h,h'=>by
  simp only[aT] at h;obtain⟨u,e,rfl,h2,h⟩:=h;simp only[dJ,aT];exact⟨u,_,rfl,h2,lY h h'⟩
def oi (P:Program) (op:BinOp) (t:TypeId) (n:Nat) (K:D->Prop):Prop:=match cG P t with
 |some ⟨.slice _,_,_,_⟩=>∀b,(n≠0->b=false)->ic op b K
 |_=>False
def By (P:Program) (op:BinOp) (t:TypeId) (x y:D) (K:D->Prop):Prop:=
 match x,y with
 | .seq _ e,.val (.slice none _ _)=>oi P op t e.length K
 | .os _ _ _ _ n,.val (.slice none _ _)=>oi P op t n K
 | .Ep,.val (.slice none _ _)=>oi P op t 0 K
 |x,y=>od P op t x y K
theorem ED {n:Nat}{K:D->Prop}(hn:∀b,x.iM=some b->n≠0/\b=false)(h:j8 P op t x K):oi P op t n K:=by
 unfold j8 at h;unfold oi;split at h
 ·rename_i g i
  rw[g];intro b e;obtain⟨f,rfl⟩:=hn _ i;rw[e f];exact h
 ·exact h.elim
theorem Vh {K:D->Prop}(h:od P op t x y K):By P op t x y K:=by
 unfold By;split
 ·refine ED (x:=.seq _ _) (λb e=>?_) h
  simp only[D.iM] at e;split at e
  ·cases e
  ·rename_i f;injection e with e;exact⟨f,e.symm⟩
 ·refine ED (x:=.os _ _ _ _ _) (λb e=>?_) h
  simp only[D.iM] at e;split at e
  ·cases e
  ·rename_i f;injection e with e;exact⟨f,e.symm⟩
 ·exact ED (x:=.Ep) (λb e=>by simp [D.iM] at e) h
 ·exact h
theorem Aq {w:World}{p q:Operand}{m e n c:Nat}{A:Option Addr}{K:D->Prop}(h:oi P op t k K)(j:k≠0->A.isNone=false):
  ∃u,(do eqGuard op t p q (.slice A m e) (.slice none n c);binOp op t (.slice A m e) (.slice none n c)).run P w=.ok u w/\K (.val u):=by
 unfold oi at h;split at h
 ·rename_i l
  obtain⟨d,i,g,r,f⟩:=cZ l;injection f with f
  cases d <;> simp [iI] at f
  subst f;have o:(eqGuard op t p q (.slice A m e) (.slice none n c)).run P w=.ok () w:=kN (.inl (by simp));simp only[Sem.run_bind,o,Result.andThen];exact ss (h A.isNone j) (AE 9999 g A m e n c) rfl rfl
 ·exact h.elim
theorem Td {S:Nat->Prop}{a b:Value}{p q:Operand}{K:D->Prop}(h:By P op t x y K)(hx:D.is w S x a)(hy:D.is w S y b):
  ∃u,(do eqGuard op t p q a b;binOp op t a b).run P w=.ok u w/\K (.val u):=by
 unfold By at h;split at h
 ·have g:=cQ hy
  subst g;simp only[D.is] at hx;obtain⟨A,c,rfl,i,f⟩:=hx;refine Aq h λe=>?_;rcases f with f|⟨_,_,rfl,_⟩
  ·subst f;exact absurd rfl e
  ·rfl
 ·have g:=cQ hy
  subst g;simp only[D.is] at hx;obtain⟨A,c,rfl,i,f⟩:=hx;refine Aq h λe=>?_;rcases f with f|⟨rfl,_⟩
  ·omega
  ·rfl
 ·have g:=cQ hy
  subst g;simp only[D.is] at hx;obtain⟨A,rfl⟩:=hx;exact Aq h λe=>absurd rfl e
 ·exact Pd h hx hy
def CE (P:Program) (H:aA) (a b:TypeId) (x:D) (K:D->Prop):Prop:=
 match x with
 | .os f _ _ _ n=>(match cG P a,cG P b with
  |some ⟨.slice e,_,_,_⟩,some ⟨.slice _,_,_,_⟩=>a=b/\n≠0/\(match cG P e with
   |some ⟨.int .u8,_,_,_⟩=>(match H f with
    |some (.row _ _ _ _)=>K x
    |_=>False)
   |_=>False)
  |_,_=>wX P H a b x K)
 |_=>wX P H a b x K
theorem NQ {a b:TypeId}{K:D->Prop}(h:wX P H a b x K):CE P H a b x K:=by
 unfold CE;split
 ·split
  ·rename_i e f
   unfold wX at h;rw[e,f] at h;exact h.elim
  ·exact h
 ·exact h
theorem Df {cs:Array Value}{fr:Nat×Nat}(hb:w.heap[b]?=some (Obj.cells cs t fr)):(w.freeze ⟨b,k,none⟩ 1).heap[b]?=some (Obj.cells cs t (if fr.1==fr.2 then (k,k+1) else (min fr.1 k,max fr.2 (k+1)))):=by
 unfold World.freeze;rw[aC (by decide)];simp [pb,hb]
theorem vR (h:c≠b):(w.freeze ⟨b,k,none⟩ 1).heap[c]?=w.heap[c]?:=by
 unfold World.freeze;rw[aC (by decide)];simp [pb,Ne.symm h]
theorem LY (G:eF w H){o:Nat}{els:List (List D)}{cs:Array Value}{fr:Nat×Nat}{A:TypeId}(hb:H b=some (.row t o sz els))(l:w.heap[b]?=some (Obj.cells cs A fr)):
  eF (w.freeze ⟨b,cs.size,none⟩ 1) H/\Ev H w H (w.freeze ⟨b,cs.size,none⟩ 1):=by
 obtain⟨I,K,j,E,T,V⟩:=G _ _ hb;rw[l] at j;injection j with j
 injection j with p r u
 subst p r u;have n:H.aU b (.row A o sz els)=H:=funext λc=>by
  by_cases e:c=b
  ·subst e;rw[aK,hb]
  ·rw[aJ e]
 have f:=Df (k:=cs.size) l;have ir:(w.freeze ⟨b,cs.size,none⟩ 1).heap.size=w.heap.size:=by unfold World.freeze;rw[aC (by decide)];simp
 have g:Ev H w (H.aU b (.row A o sz els)) (w.freeze ⟨b,cs.size,none⟩ 1):=jI (by rw[hb];simp) (by unfold World.freeze;rw[aC (by decide)]) (by unfold World.freeze;rw[aC (by decide)]) (by unfold World.freeze;rw[aC (by decide)]) ir (λc z=>vR z) λJ t2 L h=>by
  rw[l] at h;injection h with h
  injection h with p r u
  subst p r u;exact⟨_,_,f,rfl⟩
 have B:=hQ G g (λc z=>vR z) ⟨cs,_,f,by
  unfold KL at E ⊢;by_cases e:fr.1=fr.2
  ·rw[aD (by simpa using e)];exact .inr (bh _)
  ·rw[aC (by simpa using e)]
   refine .inr ?_;have:=E.resolve_left e;simp only;omega,T,by
  have m:∀(i:Nat),(w.freeze ⟨b,cs.size,none⟩ 1).cell? ⟨b,i,none⟩=w.cell? ⟨b,i,none⟩:=λi=>by rw[cell_of_row _ _ _ _ _ _ f,cell_of_row _ _ _ _ _ _ l]
  refine dV λi el Z=>?_;obtain⟨M,N⟩:=ca V i el Z;refine⟨M,?_⟩;obtain⟨vs,R,S⟩:=cf N;refine dD (bO g.kept _ R) λq v hq=>?_;rw[m];exact S q v hq⟩
 rw[n] at g B;exact⟨B,g⟩
theorem Th (r:eF w H){src dst:TypeId}{K:D->Prop}(h:CE P H src dst x K)(hx:D.is w H.others x v):∃u d f,(convert src dst v).run P w=.ok u f/\D.is f H.others d u/\eF f H/\Ev H w H f/\K d:=by
 have xz:wX P H src dst x K->∃u d f,(convert src dst v).run P w=.ok u f/\D.is f H.others d u/\eF f H/\Ev H w H f/\K d:=λh=>by
  obtain⟨u,p,m⟩:=Tg r h hx;exact⟨u,_,w,p,lN _,r,dr _ _,m⟩
 unfold CE at h;split at h
 ·rename_i g o sz k n
  split at h
  ·rename_i e _ _ _ _ _ _ _ M hB
   obtain⟨rfl,hn,h⟩:=h;split at h
   ·rename_i N
    split at h
    ·rename_i ty o' S L R
     obtain⟨J,iA,G,T,j⟩:=cZ M;obtain⟨dE,iE,I,Z,l⟩:=cZ N;injection j with j
     cases J <;> simp [iI] at j
     subst j;injection l with l
     cases dE <;> simp [iI] at l
     subst l;have B:=hx;simp only[D.is] at hx;obtain⟨A,c,rfl,hc,i⟩:=hx;rcases i with i|⟨rfl,cs,t,fr,E,V⟩
     ·omega
     ·obtain⟨p,m⟩:=LY r R E
      refine⟨_,.os g o sz k n,_,?_,j6 m.kept _ B,p,m,h⟩;have z:w.shape? g=some (t,cs.size):=by unfold World.shape?;rw[E]
      simp [convert,bH G,bH I,markStringish,shape,freeze,Sem.run,Result.andThen,z]
    ·exact h.elim
   ·exact h.elim
  ·exact xz h
 ·exact xz h
def qj (b:Bool) (A B:Prop):Prop:=if b=true then A else B
theorem iR (b:Bool)(A B:Prop):qj b A B=if b=true then A else B:=rfl
theorem SO (c:Prop) [Decidable c] (A B:Prop):(if c then A else B)=((c->A)/\(¬c->B)):=by by_cases h:c <;> simp [h]
theorem Aw {b:Bool}{A B:Prop}:qj b A B↔(b=true->A)/\(b=false->B):=by cases b <;> simp [qj]
theorem oY {b e:Bool}{A B:Prop}:qj (b==e) A B↔(b=e->A)/\(b= !e->B):=by cases b <;> cases e <;> simp [qj]
theorem E0 {b:Bool}{A B:Prop}(h:qj b A B):b=true->A:=λe=>by subst e;simpa [qj] using h
theorem EZ {b:Bool}{A B:Prop}(h:qj b A B):b=false->B:=λe=>by subst e;simpa [qj] using h
def cU (cx:Cx) (o:Oper) (s:St) (K:St->Prop):Prop:=
 match o.op with
 | .move x| .assign x=>K (s.put o.dst (s.ev x))
 | .pick c x y=>(match s.ev c with
  | .val (.bool b)=>qj b (K (s.put o.dst (s.ev x))) (K (s.put o.dst (s.ev y)))
  |_=>False)
 | .alloc t=>DB cx.P s.H t λd H=>K ((s.cJ H).put o.dst d)
 | .box t x=>DE s.H t (s.ev x) λd H=>K ((s.cJ H).put o.dst d)
 | .build t e=>B3 cx.P t (s.parts e) λd=>K (s.put o.dst d)
 | .buildSlice t n e=>BR cx.P s.H t n (s.parts e) λd H=>K ((s.cJ H).put o.dst d)
 | .load t x=>sL cx.P s.H t (s.ev x) λd=>K (s.put o.dst d)
 | .store t x y=>BT cx.P s.H t (s.ev x) (s.ev y) λH=>K ((s.cJ H).put o.dst (.val undef))
 | .nilCheck x=>Ba (s.ev x) λd=>K (s.put o.dst d)
 | .binOp op t x y _=>By cx.P op t (s.ev x) (s.ev y) λd=>K (s.put o.dst d)
 | .unOp op _ x=>Bj op (s.ev x) λd=>K (s.put o.dst d)
 | .convert a b x=>CE cx.P s.H a b (s.ev x) λd=>K (s.put o.dst d)
 | .makeFunc (.func f) first g=>(match s.rh first with
  |[]=>K (s.put o.dst (.fn f (s.rh g)))
  |d::h=>K (s.put o.dst (.fb f (d::h) (s.rh g))))
 | .makeSlice t n c=>EC cx.P s.H t (s.ev n) (s.ev c) λd H=>K ((s.cJ H).put o.dst d)
 | .slice t x l j m=>Be cx.P s.H t (s.ev x) (l.map s.ev) (j.map s.ev) (m.map s.ev) λd=>K (s.put o.dst d)
 | .fieldAddr t x f=>B6 cx.P t (s.ev x) f λd=>K (s.put o.dst d)
 | .field t x f=>gU cx.P t (s.ev x) f λd=>K (s.put o.dst d)
 | .indexAddr t x i=>B7 cx.P s.H t (s.ev x) (s.ev i) λd=>K (s.put o.dst d)
 | .index t x i=>B8 cx.P t (s.ev x) (s.ev i) λd=>K (s.put o.dst d)
 | .extract x i=>B5 (s.ev x) i λd=>K (s.put o.dst d)
 | .call c=>DJ cx.P s c (λd H=>K ((s.cJ H).put o.dst d)) (WO cx o K s)
 | .makeMap _ none=>Fp s.H λd H=>K ((s.cJ H).put o.dst d)
 | .lookup t x i ok=>yk cx.P s.H t (s.ev x) (s.ev i) ok λd=>K (s.put o.dst d)
 | .mapUpdate t x i y=>AX cx.P s.H t (s.ev x) (s.ev i) (s.ev y) λH=>K ((s.cJ H).put o.dst (.val undef))
 | .insert t x i y=>AX cx.P s.H t (s.ev x) (s.ev i) (s.ev y) λH=>K ((s.cJ H).put o.dst (.val undef))
 |_=>WO cx o K s
theorem kQ {o:Oper}{K:St->Prop}(hd:qP cx.n o.dst)(h:cU cx o s K):WO cx o K s:=by
 have u:∀{P:Program}{w:World}{sm:Sem Value}{r:Value}{z:World},sm.run P w=.ok r z->(do pure (Next.value (<-sm)):Sem Next).run P w=.ok (.value r) z:=λh=>by simp only[Sem.run_bind,h,Result.andThen,Sem.run_pure]
 unfold cU at h;split at h
 case h_1 x e=>exact fx (by simp [e]) hd λa w m=>⟨_,_,by simp [execOp,e],m.nz x,h⟩
 case h_2 x e=>exact fx (by simp [e]) hd λa w m=>⟨_,_,by simp [execOp,e],m.nz x,h⟩
 case h_3 c x y e=>
  refine fx (by simp [e]) hd λa w m=>?_;split at h
  ·rename_i b hb
   have S:=m.nz c;rw[hb] at S;have T:=cQ S;cases b with
   |true=>exact⟨_,_,by simp [execOp,e,T,asBool],m.nz x,E0 h rfl⟩
   |false=>exact⟨_,_,by simp [execOp,e,T,asBool],m.nz y,EZ h rfl⟩
  ·exact h.elim
 case h_4 t e=>
  refine mJ (by simp [e]) hd λa w m=>?_;obtain⟨r,d,z,H',h1,j,l,A,B⟩:=T6 m.H h;exact⟨r,z,d,H',by simp only[execOp,e];exact u h1,j,l,A,B⟩
 case h_5 t x e=>
  refine mJ (by simp [e]) hd λa w m=>?_;obtain⟨r,d,z,H',h1,j,l,A,B⟩:=Tf (P:=cx.P) m.H h (m.nz x);exact⟨r,z,d,H',by simp only[execOp,e];exact u h1,j,l,A,B⟩
 case h_6 t ps e=>
  refine fx (by simp [e]) hd λa w m=>?_;obtain⟨r,d,h1,j,l⟩:=T9 h (m.Ag ps);exact⟨r,d,by simp only[execOp,e];exact u h1,j,l⟩
 case h_7 t n ps e=>
  refine mJ (by simp [e]) hd λa w m=>?_;obtain⟨r,d,z,H',h1,j,l,A,B⟩:=Jm m.H h (m.Ag ps);exact⟨r,z,d,H',by simp only[execOp,e];exact u h1,j,l,A,B⟩
 case h_8 t x e=>
  refine fx (by simp [e]) hd λa w m=>?_;obtain⟨r,d,h1,j,l⟩:=Jo m.H h (m.nz x);exact⟨r,d,by simp only[execOp,e];exact u h1,j,l⟩
 case h_9 t x y e=>
  refine Cy (by simp [e]) hd λa w m=>?_;obtain⟨z,H',h1,j,l,A⟩:=Tt m.H h (m.nz x) (m.nz y);exact⟨z,H',by simp only[execOp,e,Sem.run_bind,h1,Result.andThen,Sem.run_pure],j,l,A⟩
 case h_10 x e=>
  refine fx (by simp [e]) hd λa w m=>?_;obtain⟨h1,j⟩:=Tq (P:=cx.P) e h (m.nz x);exact⟨_,_,h1,m.nz x,j⟩
 case h_11 op t x y _ e=>
  refine fx (by simp [e]) hd λa w m=>?_;obtain⟨r,h1,j⟩:=Td (p:=x) (q:=y) h (m.nz x) (m.nz y);exact⟨r,_,by simp only[execOp,e];exact u h1,lN _,j⟩
 case h_12 op _ x e=>
  refine fx (by simp [e]) hd λa w m=>?_;obtain⟨r,h1,j⟩:=Tu (P:=cx.P) h (m.nz x);exact⟨r,_,by simp only[execOp,e];exact u h1,lN _,j⟩
 case h_13 p q x e=>
  refine mJ (by simp [e]) hd λa w m=>?_;obtain⟨r,d,z,h1,j,l,A,B⟩:=Th m.H h (m.nz x);exact⟨r,z,d,s.H,by simp only[execOp,e];exact u h1,j,l,A,B⟩
 case h_14 f first I e=>
  refine fx (by simp [e]) hd λa w m=>?_;have h1:=m.Db first
  split at h
  ·rename_i Z
   rw[Z] at h1;simp only[aT] at h1;have E:first.map a.eval= #[]:=gm (by simpa using h1);refine⟨.func (.func f) #[] (I.map a.eval),_,by simp [execOp,e,Instr.makeFunc,E],?_,h⟩;simp only[D.is];exact⟨(I.map a.eval).toList,rfl,m.Db I⟩
  ·rename_i d ds Z
   rw[Z] at h1;refine⟨.func (.func f) (first.map a.eval) (I.map a.eval),_,by simp [execOp,e,Instr.makeFunc],?_,h⟩;simp only[D.is];exact⟨(first.map a.eval).toList,(I.map a.eval).toList,rfl,h1,m.Db I⟩
 case h_15 t n c e=>
  refine mJ (by simp [e]) hd λa w m=>?_;obtain⟨r,d,z,H',h1,j,l,A,B⟩:=To m.H h (m.nz n) (m.nz c);exact⟨r,z,d,H',by simp only[execOp,e];exact u h1,j,l,A,B⟩
 case h_16 t x lo hi mx e=>
  refine fx (by simp [e]) hd λa w m=>?_;obtain⟨r,d,h1,j,l⟩:=Tr h (m.nz x) (m.XE lo) (m.XE hi) (m.XE mx);exact⟨r,d,by simp only[execOp,e];exact u h1,j,l⟩
 case h_17 t x f e=>
  refine fx (by simp [e]) hd λa w m=>?_;obtain⟨r,d,h1,j,l⟩:=Tk h (m.nz x);exact⟨r,d,by simp only[execOp,e];exact u h1,j,l⟩
 case h_18 t x f e=>
  refine fx (by simp [e]) hd λa w m=>?_;obtain⟨r,d,h1,j,l⟩:=II h (m.nz x);exact⟨r,d,by simp only[execOp,e];exact u h1,j,l⟩
 case h_19 t x i e=>
  refine fx (by simp [e]) hd λa w m=>?_;obtain⟨r,d,h1,j,l⟩:=Tl h (m.nz x) (m.nz i);exact⟨r,d,by simp only[execOp,e];exact u h1,j,l⟩
 case h_20 t x i e=>
  refine fx (by simp [e]) hd λa w m=>?_;obtain⟨r,d,h1,j,l⟩:=Tm h (m.nz x) (m.nz i);exact⟨r,d,by simp only[execOp,e];exact u h1,j,l⟩
 case h_21 x i e=>
  refine fx (by simp [e]) hd λa w m=>?_;obtain⟨r,d,h1,j,l⟩:=Tj (P:=cx.P) h (m.nz x);exact⟨r,d,by simp only[execOp,e];exact u h1,j,l⟩
 case h_22 c e=>
  unfold DJ at h;split at h
  ·rename_i f G
   split at h
   ·rename_i g I hg
    intro a w m;refine⟨gw,?_⟩;rw[u7 (by simp [e])];have E:=m.nz f;rw[hg] at E;simp only[D.is] at E;obtain⟨vs,E,N⟩:=E;have L:(execOp a.eval o).run cx.P w=.ok (.enter g (c.args.map a.eval++⟨vs⟩)) w:=by
     simp only[execOp,e,resolve,G,E,Deferred.ofValue,Sem.run_bind,Sem.run_pure,Result.andThen,invoke];rw[Array.empty_append];exact h.1 _ _
    rw[L,Oper.uponIn_enter];refine⟨λR=>(by cases R),?_⟩;have M:=lY (m.Db c.args) N;have S:=h.2 w _ M m.H m.Xo;have J:=uM (ro:=cx.ro) (n:=9 - 1) S;rw[show(c.args.map a.eval++(⟨vs⟩:Array Value))=((c.args.map a.eval).toList++vs).toArray from gm (by simp)];refine J.mono λe' z ⟨v,d,H',he,h1,j,l,A⟩=>?_;subst he;exact⟨_,(m.go l j).put (fI hd) h1,A⟩
   ·rename_i g first I hg
    intro a w m;refine⟨gw,?_⟩;rw[u7 (by simp [e])];have E:=m.nz f;rw[hg] at E;simp only[D.is] at E;obtain⟨us,vs,E,V,N⟩:=E;have L:(execOp a.eval o).run cx.P w=.ok (.enter g ((⟨us⟩:Array Value)++c.args.map a.eval++⟨vs⟩)) w:=by
     simp only[execOp,e,resolve,G,E,Deferred.ofValue,Sem.run_bind,Sem.run_pure,Result.andThen,invoke];exact h.1 _ _
    rw[L,Oper.uponIn_enter];refine⟨λR=>(by cases R),?_⟩;have M:=lY V (lY (m.Db c.args) N);have S:=h.2 w _ M m.H m.Xo;have J:=uM (ro:=cx.ro) (n:=9 - 1) S;rw[show((⟨us⟩:Array Value)++c.args.map a.eval++(⟨vs⟩:Array Value))=(us++((c.args.map a.eval).toList++vs)).toArray from gm (by simp)];refine J.mono λe' z ⟨v,d,H',he,h1,j,l,A⟩=>?_;subst he;exact⟨_,(m.go l j).put (fI hd) h1,A⟩
   ·exact h
  ·rename_i b G
   refine mJ (by simp [e]) hd λa w m=>?_;obtain⟨r,d,z,H',h1,j,l,A,B⟩:=Tc (cs:=c.args.map λ| .const _=>true|_=>false) (ty:=o.type) m.H h (m.Db c.args);refine⟨r,z,d,H',?_,j,l,A,B⟩;simp only[execOp,e,resolve,G,Sem.run_bind,Sem.run_pure,Result.andThen,invoke];exact h1
  ·exact h
 case h_23 t e=>
  refine mJ (by simp [e]) hd λa w m=>?_;obtain⟨r,d,z,H',h1,j,l,A,B⟩:=Tp (P:=cx.P) (t:=t) m.H h;exact⟨r,z,d,H',by simp only[execOp,e];exact u h1,j,l,A,B⟩
 case h_24 t x i ok e=>
  refine fx (by simp [e]) hd λa w m=>?_;obtain⟨r,d,h1,j,l⟩:=Tn m.H h (m.nz x) (m.nz i);exact⟨r,d,by simp only[execOp,e];exact u h1,j,l⟩
 case h_25 t x i y e=>
  refine Cy (by simp [e]) hd λa w m=>?_;obtain⟨z,H',h1,j,l,A⟩:=Jp m.H h (m.nz x) (m.nz i) (m.nz y);exact⟨z,H',by simp only[execOp,e,Sem.run_bind,h1,Result.andThen,Sem.run_pure],j,l,A⟩
 case h_26 t x i y e=>
  refine Cy (by simp [e]) hd λa w m=>?_;obtain⟨z,H',h1,j,l,A⟩:=Jp m.H h (m.nz x) (m.nz i) (m.nz y);exact⟨z,H',by simp only[execOp,e,Sem.run_bind,h1,Result.andThen,Sem.run_pure],j,l,A⟩
 case h_27=>exact h
def fh:Op->Bool
 | .call ⟨.value _,_,_⟩=>true
 |_=>false
def ij (cx:Cx) (g:Array Oper) (Q:Exit->St->Prop):List Oper->St->Prop
 |[],s=>Q .normal s
 |o::e,s=>(match o.guard with
  |none=>cU cx o s λh=>if fh o.op then WL cx g e Q h else ij cx g Q e h
  |some (j,f)=>(match j9 g j with
   |some t=>(match s.fr t with
    | .val (.bool b)=>qj (b==f) (cU cx o (s.put (some t) (.val (.bool f))) λh=>if fh o.op then WL cx g e Q h else ij cx g Q e h) (ij cx g Q e ((s.put (some t) (.val (.bool !f))).put o.dst (.val undef)))
    | .val (.tuple ⟨[]⟩)=>ij cx g Q e (s.put o.dst (.val undef))
    |_=>False)
   |none=>False))
def dQ (n:Nat) (e:List Oper):Bool:=e.all λo=>match o.dst with
 |some t=>decide (t<n)
 |none=>true
theorem EV {t:Nat}{d:D}(h:s.fr t=d):s.put (some t) d=s:=by
 cases s;simp only[St.put] at h ⊢;congr 1;funext x;by_cases e:x=t
 ·rw[aD e,e,h]
 ·rw[aC e]
theorem yM {g:List Oper}{Q:Exit->St->Prop}(I:dQ cx.n g=true):∀{l:List Oper}{s:St},dQ cx.n l=true->ij cx g.toArray Q l s->WL cx g.toArray l Q s
 |[],s,_,h=>Cw h
 |o::f,s,hl,h=>by
  simp only[dQ,jQ,cX] at hl;have hd:qP cx.n o.dst:=by
   have:=hl.1;unfold qP;cases ho:o.dst with
   |none=>trivial
   |some t=>rw[ho] at this;simpa using this
  have G:∀i,ij cx g.toArray Q f i->WL cx g.toArray f Q i:=λi r=>yM I hl.2 r;have B:∀i,(if fh o.op then WL cx g.toArray f Q i else ij cx g.toArray Q f i)->WL cx g.toArray f Q i:=λi r=>by
   split at r
   ·exact r
   ·exact G i r
  simp only[ij] at h;split at h
  ·rename_i E
   exact lA E (sX (kQ hd h) B)
  ·rename_i j p E
   split at h
   ·rename_i t m
    have A:t<cx.n:=by
     unfold j9 at m;cases hj:g.toArray[j]? with
     |none=>rw[hj] at m;cases m
     |some J=>
      rw[hj] at m
      have:=(dK.1 I) J (by have:=tJ hj;simpa using this)
      simp at m
      rw[m] at this
      simpa using this
    split at h
    ·rename_i b z
     exact pj E m A (fI hd) (.inl ⟨b,z,λe=>by
       have u:=E0 h (by rw[e];cases p <;> rfl);rw[EV (by rw[z,e])] at u;exact sX (kQ hd u) B,λe=>by
       have u:=EZ h (by rw[e];cases p <;> rfl);rw[EV (by rw[z,e])] at u;exact G _ u⟩)
    ·rename_i z
     exact pj E m A (fI hd) (.inr ⟨z,G _ h⟩)
    ·exact h.elim
   ·exact h.elim
def mF (d:D) (A B:Prop):Prop:=
 match d with
 | .val (.bool b)=>qj b A B
 |_=>False
theorem YG {Q:Exit->St->Prop}{c:Operand}{x y:Code}(h:mF (s.ev c) (W cx x Q s) (W cx y Q s)):W cx (.cond c x y) Q s:=by
 unfold mF at h;split at h
 ·rename_i b e
  exact V0 b e (E0 h) (EZ h)
 ·exact h.elim
theorem sR (s:St)(t:Nat)(d:D)(x:Nat):(s.put (some t) d).fr x=if x=t then d else s.fr x:=rfl
theorem P5 (s:St)(d:D):s.put none d=s:=rfl
theorem iN (s:St)(t:Option Tmp)(d:D):(s.put t d).H=s.H:=by cases t <;> rfl
theorem u5 (s:St)(t:Option Tmp)(d:D):(s.put t d).df=s.df:=by cases t <;> rfl
theorem fS (s:St)(H:aA):(s.cJ H).H=H:=rfl
theorem Q8 (s:St)(H:aA):(s.cJ H).fr=s.fr:=rfl
theorem qN (s:St)(H:aA):(s.cJ H).df=s.df:=rfl
theorem WM (s:St)(t:Nat):s.ev (.tmp t)=s.fr t:=rfl
theorem Ns (s:St)(v:Value):s.ev (.const v)=D.MW v:=rfl
theorem Rx (s:St)(f:FuncId):s.ev (.func f)=.fn f []:=rfl
theorem LS (s:St)(g:Nat):s.ev (.global g)=gD g:=rfl
theorem SK (ds:List D)(H:aA)(t:Nat):(St.init ds H).fr t=ds.getD t (.val undef):=rfl
theorem uP (ds:List D)(H:aA):(St.init ds H).H=H:=rfl
theorem SJ (ds:List D)(H:aA):(St.init ds H).df=[]:=rfl
theorem Ry (s:St)(l:List Operand):s.rh ⟨l⟩=l.map s.ev:=rfl
theorem Ll (s:St)(l:List (Nat×Operand)):s.parts ⟨l⟩=l.map λp=>(p.1,s.ev p.2):=rfl
theorem TG (k:IntKind)(n:Int):D.MW (.int k n)=.val (.int k n):=rfl
theorem PF (b:Bool):D.MW (.bool b)=.val (.bool b):=rfl
theorem Hq (s:ByteArray):D.MW (.string s)=.val (.string s):=rfl
theorem Lk (a:Option Addr)(n c:Nat):D.MW (.slice a n c)=.val (.slice a n c):=rfl
theorem Fz (a:Option Addr):D.MW (.pointer a)=.val (.pointer a):=rfl
theorem TH (a:Option Nat):D.MW (.map a)=.val (.map a):=rfl
theorem Fy:D.MW .nilFunc=.val .nilFunc:=rfl
theorem IS {e:Type}(l:List e):(⟨l⟩:Array e).toList=l:=rfl
theorem Rr (l:List Oper)(j:Nat):j9 ⟨l⟩ j=(l[j]?).bind (·.dst):=by simp [j9]
def pZ (P:Program) (s:St) (rs:List ResultVar) (K:D->Prop):Prop:=
 match rs with
 |[.tmp t]=>K (s.fr t)
 |[.tmp t,.tmp u]=>K (.eO [s.fr t,s.fr u])
 |[.tmp t,.tmp u,.tmp v]=>K (.eO [s.fr t,s.fr u,s.fr v])
 |[]=>K (.eO [])
 |[.cell a t]=>sL P s.H t (s.fr a) K
 |[.cell a t,.cell b u]=>sL P s.H t (s.fr a) λx=>sL P s.H u (s.fr b) λy=>K (.eO [x,y])
 |[.cell a t,.cell b u,.cell c v]=>sL P s.H t (s.fr a) λx=>sL P s.H u (s.fr b) λy=>sL P s.H v (s.fr c) λz=>K (.eO [x,y,z])
 |[.cell a t,.tmp u]=>sL P s.H t (s.fr a) λx=>K (.eO [x,s.fr u])
 |[.tmp u,.cell a t]=>sL P s.H t (s.fr a) λx=>K (.eO [s.fr u,x])
 |[.cell a t,.tmp u,.tmp v]=>sL P s.H t (s.fr a) λx=>K (.eO [x,s.fr u,s.fr v])
 |_=>False
theorem lV (m:bj cx s a w){t:Nat}{K:D->Prop}(h:sL P s.H ty (s.fr t) K):∃u d p,a.tmps[t]?.getD undef=.pointer (some p)/\(loadVar ty p).run P w=.ok u w/\D.is w s.H.others d u/\K d:=by
 obtain⟨u,d,h1,i,j⟩:=Jo m.H h (m.fr t);have g:∃p,a.tmps.getD t undef=.pointer (some p):=by
  have f:=m.fr t;unfold sL at h;split at h
  ·split at h
   ·rename_i e;rw[e] at f;simp only[D.is] at f;obtain⟨b,o,l,_⟩:=f;exact⟨_,l⟩
   ·rename_i e;rw[e] at f;simp only[D.is] at f;exact⟨_,f⟩
   ·exact h.elim
  ·exact h.elim
 obtain⟨p,g⟩:=g;refine⟨u,d,p,by rw[<-nK];exact g,?_,i,j⟩;rw[g] at h1;simpa only[Instr.loadAt,Instr.sureAddr,Sem.run_bind,Sem.run_pure,Result.andThen] using h1
theorem sG {fn:Func}{K:D->aA->Prop}{e:Exit}(S:e=.normal\/e=.ret)(I:s.df=[])(h:pZ cx.P s fn.results.toList λd=>∃H',H'.le s.H/\K d H'):LK cx fn K e s:=by
 have J:Ew cx fn s K:=by
  intro a w m;have fin:∀(v:Value) (d:D),(results fn a.tmps).run cx.P w=.ok v w->D.is w s.H.others d v->(∃H',H'.le s.H/\K d H')->∃v d H',(results fn a.tmps).run cx.P w=.ok v w/\D.is w H'.others d v/\H'.le s.H/\K d H':=by
   rintro v d g i ⟨H',f,A⟩;exact⟨v,d,H',g,j6 (kK f w) _ i,f,A⟩
  have n:∀l,fn.results.toList=l->fn.results=⟨l⟩:=λl e=>gm (by simpa using e);unfold pZ at h;split at h
  ·rename_i t e
   exact fin _ _ (by simp [results,n _ e]) (m.fr t) h
  ·rename_i t u e
   exact fin (.tuple #[a.tmps.getD t undef,a.tmps.getD u undef]) _ (by simp [results,n _ e]) (by simp only[D.is,aT];exact⟨_,rfl,_,_,rfl,m.fr t,_,_,rfl,m.fr u,rfl⟩) h
  ·rename_i t u v e
   exact fin (.tuple #[a.tmps.getD t undef,a.tmps.getD u undef,a.tmps.getD v undef]) _ (by simp [results,n _ e]) (by simp only[D.is,aT];exact⟨_,rfl,_,_,rfl,m.fr t,_,_,rfl,m.fr u,_,_,rfl,m.fr v,rfl⟩) h
  ·rename_i e
   exact fin (.tuple #[]) _ (by simp [results,n _ e]) (by simp only[D.is,aT];exact⟨_,rfl,rfl⟩) h
  ·rename_i b t e
   obtain⟨x,o,p,j,g,i,f⟩:=lV m h;exact fin x o (by simp [results,n _ e,j,g,Result.andThen,asAddr]) i f
  ·rename_i b t c u e
   obtain⟨x,o,p,j,g,i,f⟩:=lV m h;obtain⟨y,L,q,B,A,E,G⟩:=lV m f;exact fin (.tuple #[x,y]) _ (by simp [results,n _ e,j,g,B,A,Result.andThen,asAddr]) (by simp only[D.is,aT];exact⟨_,rfl,_,_,rfl,i,_,_,rfl,E,rfl⟩) G
  ·rename_i b t c u d v e
   obtain⟨x,o,p,j,g,i,f⟩:=lV m h;obtain⟨y,L,q,B,A,E,G⟩:=lV m f;obtain⟨z,V,r,T,M,N,R⟩:=lV m G;exact fin (.tuple #[x,y,z]) _ (by simp [results,n _ e,j,g,B,A,T,M,Result.andThen,asAddr]) (by simp only[D.is,aT];exact⟨_,rfl,_,_,rfl,i,_,_,rfl,E,_,_,rfl,N,rfl⟩) R
  ·rename_i b t u e
   obtain⟨x,o,p,j,g,i,f⟩:=lV m h;exact fin (.tuple #[x,a.tmps.getD u undef]) _ (by simp [results,n _ e,j,g,Result.andThen,asAddr]) (by simp only[D.is,aT];exact⟨_,rfl,_,_,rfl,i,_,_,rfl,m.fr u,rfl⟩) f
  ·rename_i u b t e
   obtain⟨x,o,p,j,g,i,f⟩:=lV m h;exact fin (.tuple #[a.tmps.getD u undef,x]) _ (by simp [results,n _ e,j,g,Result.andThen,asAddr]) (by simp only[D.is,aT];exact⟨_,rfl,_,_,rfl,m.fr u,_,_,rfl,i,rfl⟩) f
  ·rename_i b t u v e
   obtain⟨x,o,p,j,g,i,f⟩:=lV m h;exact fin (.tuple #[x,a.tmps.getD u undef,a.tmps.getD v undef]) _ (by simp [results,n _ e,j,g,Result.andThen,asAddr]) (by simp only[D.is,aT];exact⟨_,rfl,_,_,rfl,i,_,_,rfl,m.fr u,_,_,rfl,m.fr v,rfl⟩) f
  ·exact h.elim
 rcases S with rfl|rfl <;> exact⟨I,J⟩
theorem Ro {f:FuncId}{fn:Func}{c:Code}{ds:List D}{H:aA}{K:D->aA->Prop}(N:Nat)(rs:List ResultVar)(hf:P.funcs[f]?=some fn)(mh:(fn.name== "runtime.NumGoroutine")=false)(hb:fn.body=some c)(l:fn.ntmps=N)(n:fn.results=rs.toArray)(hl:ds.length<=N)
  (h:∀g (i:wW g H) (Q:Exit->St->Prop),(∀e s,e=.normal\/e=.ret->s.df=[]->pZ P s rs (λd=>∃H',H'.le s.H/\K d H')->Q e s)->W ⟨P,none,N,H,g,i⟩ c Q (St.init ds H)):aN P f ds H K:=
 HI N hf mh hb l hl λg i=>h g i _ λ_ _ m j hr=>sG m j (by rw[n];simpa using hr)
theorem Mq:IntKind.i64.bits=64:=rfl
theorem Mt:IntKind.u64.bits=64:=rfl
theorem Ms:IntKind.u32.bits=32:=rfl
theorem Mr:IntKind.u16.bits=16:=rfl
theorem RV:IntKind.u8.bits=8:=rfl
theorem aP {x:Int}(h: -9223372036854775808<=x/\x<=9223372036854775807):IntKind.i64.wrap x=x:=by rw[IntKind.wrap_i64];omega
theorem iP {x:Int}(h:0<=x/\x<=18446744073709551615):IntKind.u64.wrap x=x:=by rw[IntKind.wrap_u64];omega
theorem pJ (x:Int):IntKind.u8.wrap x=x % 256:=by simp [IntKind.wrap,IntKind.bits,IntKind.signed]
theorem fC (s:St)(t:Option Tmp)(d:D)(H:aA):(s.put t d).cJ H=(s.cJ H).put t d:=by cases t <;> rfl
theorem eL (s:St)(H H':aA):(s.cJ H).cJ H'=s.cJ H':=rfl
theorem oR (ds:List D)(H H':aA):(St.init ds H).cJ H'=St.init ds H':=rfl
theorem aA.QY {x:cY}:(H.aU b x) c=Option.none↔c≠b/\H c=Option.none:=by
 by_cases h:c=b
 ·subst h;simp [aK]
 ·simp [aJ h,h]
abbrev bF:=@aA.QY
theorem aA.DS (H:aA)(b:Nat)(x:cY):(H.aU b x).del b=H.del b:=funext λc=>by
 by_cases h:c=b
 ·subst h;rw[lf,lf]
 ·rw[bL h,bL h,aJ h]
abbrev kX:=@aA.DS
theorem aA.HG {x:cY}(h:b≠c):(H.aU c x).del b=(H.del b).aU c x:=funext λk=>by
 by_cases e:k=b
 ·subst e;rw[lf,aJ h,lf]
 ·rw[bL e]
  by_cases f:k=c
  ·subst f;rw[aK,aK]
  ·rw[aJ f,aJ f,bL e]
abbrev kC:=@aA.HG
theorem aA.NU (h:H b=Option.none):H.del b=H:=funext λk=>by
 by_cases e:k=b
 ·subst e;rw[lf,h]
 ·rw[bL e]
abbrev iy:=@aA.NU
theorem aA.iv (H:aA)(b:Nat)(x y:cY):(H.aU b x).aU b y=H.aU b y:=funext λk=>by
 by_cases e:k=b
 ·subst e;rw[aK,aK]
 ·rw[aJ e,aJ e,aJ e]
abbrev wV:=@aA.iv
theorem aA.Wr (h:H.le H')(b:Nat)(x:cY):(H.aU b x).le (H'.aU b x):=λc y e=>by
 by_cases f:c=b
 ·subst f;rw[aK] at e ⊢;exact e
 ·rw[aJ f] at e ⊢;exact h _ _ e
theorem aA.AW (h:H.le H')(hb:H b=Option.none):H.le (H'.del b):=λc y e=>by
 by_cases f:c=b
 ·subst f;rw[hb] at e;cases e
 ·rw[bL f];exact h _ _ e
theorem U9 {x:Int}{c:UInt8}(h:x=(c.toNat:Int)):[D.val (.int .u8 x)]=bD c:=by rw[h];rfl
def r9 (F:(D->Prop)->Prop):Prop:=∃(p:Prop) (d:D),∀K:D->Prop,F K↔(p/\K d)
theorem cB (d:D):r9 λK=>K d:=⟨True,d,λK=>by simp⟩
theorem aj:r9 λ_=>False:=⟨False,default,λK=>by simp⟩
theorem bP {p:Prop}{F:(D->Prop)->Prop}(h:p->r9 F):r9 λK=>p/\F K:=by
 by_cases e:p
 ·obtain⟨q,d,f⟩:=h e
  exact⟨q,d,λK=>by simp only[e,true_and];exact f K⟩
 ·exact⟨False,default,λK=>by simp [e]⟩
theorem D3 {c:Prop} [Decidable c] {F G:(D->Prop)->Prop}(h:c->r9 F) (h':¬c->r9 G):r9 λK=>if c then F K else G K:=by
 by_cases e:c
 ·simpa only[aD e] using h e
 ·simpa only[aC e] using h' e
theorem NZ (op:BinOp)(k:IntKind)(a b:Int):r9 (pn op k a b):=by
 unfold pn;cases op <;> first|exact cB _|exact bP λ_=>cB _|exact aj
theorem N0 (op:BinOp)(a b:ByteArray):r9 (po op a b):=by
 unfold po;cases op <;> first|exact cB _|exact bP λ_=>cB _|exact aj
theorem s7 (op:BinOp)(b:Bool):r9 (ic op b):=by
 unfold ic;cases op <;> first|exact cB _|exact aj
theorem Kv (P:Program)(op:BinOp)(t:TypeId)(x:D):r9 (ki P op t x):=by
 unfold ki;split
 ·exact s7 _ _
 ·exact aj
theorem Kw (P:Program)(op:BinOp)(t:TypeId)(x:D):r9 (j8 P op t x):=by
 unfold j8;split
 ·exact s7 _ _
 ·exact aj
theorem Ku (P:Program)(op:BinOp)(t:TypeId)(x:D):r9 (kh P op t x):=by
 unfold kh;split
 ·exact s7 _ _
 ·exact aj
theorem zx (P:Program)(op:BinOp)(t:TypeId)(x y:D):r9 (od P op t x y):=by
 unfold od;split
 ·split
  ·exact bP λ_=>cB _
  ·exact bP λ_=>cB _
  ·exact bP λ_=>NZ _ _ _ _
 ·exact N0 _ _ _
 ·refine bP λ_=>?_
  split
  ·exact cB _
  ·exact cB _
  ·exact aj
 ·split
  ·exact bP λ_=>s7 _ _
  ·exact aj
 ·exact Kv _ _ _ _
 ·exact Kw _ _ _ _
 ·exact Ku _ _ _ _
 ·exact aj
theorem D8 (op:UnOp)(x:D):r9 (Bj op x):=by
 unfold Bj;split
 ·exact cB _
 ·exact cB _
 ·exact cB _
 ·exact aj
theorem N3 (H:aA)(sz:Nat)(x:D)(F:List (List D)->(D->Prop)->Prop)(h:∀els,r9 (F els)):r9 λK=>gy H sz x λels=>F els K:=by
 unfold gy;split
 ·exact bP λ_=>h _
 ·split
  ·exact bP λ_=>bP λ_=>bP λ_=>bP λ_=>h _
  ·exact aj
 ·exact h _
 ·exact h _
 ·exact aj
theorem DX (P:Program)(H:aA)(a b:TypeId)(x:D):r9 (wX P H a b x):=by
 unfold wX;split
 ·split
  ·exact cB _
  ·exact cB _
  ·split
   ·refine N3 H 1 _ (λe K=>match bytesOf e with|some l=>K (.val (.string (dg l)))|none=>False) λe=>?_
    split
    ·exact cB _
    ·exact aj
   ·exact aj
  ·exact aj
 ·exact aj
theorem CH (P:Program)(t:TypeId)(cs:List D)(e:Nat):r9 (jw P t cs e):=by
 unfold jw;split
 ·refine D3 (λ_=>cB _) λ_=>?_
  split
  ·exact cB _
  ·exact aj
 ·exact aj
theorem uN (P:Program)(t:TypeId)(x:D)(f:Nat):r9 (gU P t x f):=by
 unfold gU;split
 ·exact CH _ _ _ _
 ·exact aj
theorem DZ (P:Program)(t:TypeId)(x:D)(f:Nat):r9 (B6 P t x f):=by
 unfold B6;split
 ·split
  ·refine bP λ_=>?_
   split
   ·exact cB _
   ·exact cB _
   ·exact aj
  ·exact aj
 ·exact aj
theorem D2 (P:Program)(H:aA)(t:TypeId)(x ix:D):r9 (B7 P H t x ix):=by
 unfold B7;split
 ·split
  ·split
   ·split
    ·refine bP λ_=>bP λ_=>?_
     split
     ·exact cB _
     ·exact aj
    ·exact bP λ_=>bP λ_=>bP λ_=>cB _
    ·exact aj
   ·exact aj
  ·split
   ·refine bP λ_=>bP λ_=>?_
    split
    ·exact cB _
    ·exact cB _
    ·exact aj
   ·exact aj
  ·exact aj
 ·exact aj
theorem D4 (P:Program)(t:TypeId)(x ix:D):r9 (B8 P t x ix):=by
 unfold B8;split
 ·split
  ·split
   ·exact bP λ_=>bP λ_=>CH _ _ _ _
   ·exact aj
  ·refine bP λ_=>?_
   split
   ·exact cB _
   ·exact aj
  ·exact aj
 ·exact aj
theorem It (e:Bool)(sz:Nat)(cs:List D):r9 (B9 e sz cs):=by
 unfold B9;refine D3 (λ_=>D3 (λ_=>cB _) λ_=>bP λ_=>cB _) λ_=>?_;split
 ·exact cB _
 ·exact aj
theorem D5 (P:Program)(H:aA)(t:TypeId)(x:D):r9 (sL P H t x):=by
 unfold sL;split
 ·split
  ·exact It _ _ _
  ·split
   ·refine bP λ_=>bP λ_=>?_
    split
    ·exact It _ _ _
    ·exact aj
   ·exact aj
  ·exact aj
 ·exact aj
theorem D7 (P:Program)(H:aA)(t:TypeId)(x:D)(e hi f:Option D):r9 (Be P H t x e hi f):=by
 unfold Be;split
 ·split
  ·split
   ·split
    ·exact bP λ_=>bP λ_=>bP λ_=>bP λ_=>cB _
    ·exact aj
   ·split
    ·exact bP λ_=>bP λ_=>bP λ_=>bP λ_=>cB _
    ·exact aj
   ·split
    ·exact bP λ_=>bP λ_=>cB _
    ·exact aj
   ·split
    ·exact bP λ_=>bP λ_=>cB _
    ·exact aj
   ·split
    ·exact bP λ_=>bP λ_=>bP λ_=>bP λ_=>cB _
    ·exact aj
   ·exact aj
  ·split
   ·split
    ·exact cB _
    ·exact cB _
    ·exact cB _
    ·exact cB _
    ·exact aj
   ·exact aj
  ·exact aj
 ·split
  ·split
   ·exact bP λ_=>bP λ_=>bP λ_=>cB _
   ·exact aj
  ·exact aj
 ·split
  ·split
   ·split
    ·exact bP λ_=>bP λ_=>bP λ_=>bP λ_=>cB _
    ·exact bP λ_=>bP λ_=>bP λ_=>bP λ_=>cB _
   ·exact aj
  ·exact aj
 ·exact aj
theorem DW (P:Program)(t:TypeId)(ds:List (Nat×D)):r9 (B3 P t ds):=by
 unfold B3;split
 ·refine bP λ_=>bP λ_=>?_
  split
  ·exact cB _
  ·exact aj
 ·exact aj
theorem zy (P:Program)(H:aA)(t:TypeId)(x:D):r9 (nZ P H t x):=by
 unfold nZ;split
 ·split
  ·exact cB _
  ·exact cB _
  ·exact cB _
  ·exact cB _
  ·exact cB _
  ·exact cB _
  ·exact cB _
  ·split
   ·exact cB _
   ·exact aj
  ·exact aj
 ·exact aj
theorem AA (e:List D):r9 (pY e):=by
 unfold pY;split
 ·exact cB _
 ·exact aj
theorem zz (e:List D):r9 (pX e):=by
 unfold pX;split
 ·exact cB _
 ·exact aj
theorem D6 (x:D):r9 (Ba x):=by
 unfold Ba;split
 ·exact cB _
 ·exact cB _
 ·exact cB _
 ·exact aj
theorem DY (x:D)(i:Nat):r9 (B5 x i):=by
 unfold B5;split
 ·split
  ·exact cB _
  ·exact aj
 ·exact aj
theorem Ru (e:H.le H'){K:List (List D)->Prop}(h:gy H sz x K):gy H' sz x K:=by
 unfold gy at h ⊢;split at h
 ·exact h
 ·split at h
  ·rename_i f
   rw[e _ _ f];exact h
  ·exact h.elim
 ·exact h
 ·exact h
 ·exact h.elim
theorem Wl (e:H.le H'){K:D->Prop}(h:sL P H t x K):sL P H' t x K:=by
 unfold sL at h ⊢;split at h
 ·rename_i g
  split at h
  ·exact h
  ·split at h
   ·rename_i f
    simp only[e _ _ f];exact h
   ·exact h.elim
  ·exact h.elim
 ·exact h.elim
theorem Sc (e:H.le H'){K:D->Prop}(h:nZ P H t x K):nZ P H' t x K:=by
 unfold nZ at h ⊢;split at h
 ·split at h <;> first
   |exact h
   |exact h.elim
   |skip
  split at h
  ·rename_i f
   simp only[e _ _ f]
   exact h
  ·exact h.elim
 ·exact h.elim
theorem Iu (P:Program)(H:aA)(t:TypeId)(x ix:D)(ok:Bool):r9 (yk P H t x ix ok):=by
 unfold yk;split
 ·split
  ·refine bP λ_=>?_
   split
   ·exact cB _
   ·exact cB _
  ·exact aj
 ·exact aj
theorem Ws (e:H.le H'){ix:D}{ok:Bool}{K:D->Prop}(h:yk P H t x ix ok K):yk P H' t x ix ok K:=by
 unfold yk at h ⊢;split at h
 ·split at h
  ·rename_i f g
   simp only[e _ _ f,g];exact h
  ·exact h.elim
 ·exact h.elim
theorem WD (e:H.le H'){a b:TypeId}{K:D->Prop}(h:wX P H a b x K):wX P H' a b x K:=by
 unfold wX at h ⊢;split at h
 ·split at h
  ·exact h
  ·exact h
  ·split at h
   ·exact Ru e h
   ·exact h.elim
  ·exact h.elim
 ·exact h.elim
end Go.Proofs.YtffgfafbffdgaaaGreatDoor
