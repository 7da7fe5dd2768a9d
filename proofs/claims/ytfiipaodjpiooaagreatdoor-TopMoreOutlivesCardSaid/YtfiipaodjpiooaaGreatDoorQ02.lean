/- Lemmas and contracts of functions, several texts in one. -/
import Derived.Test.YtfiipaodjpiooaaGreatDoorQ01
import Derived.Laws.MakeOwn
import Derived.Laws.Append
set_option maxRecDepth 100000
set_option maxHeartbeats 4000000
set_option linter.all false
namespace Go.Proofs.YtfiipaodjpiooaaGreatDoor
open Go.RowKit
def DE (n:Nat):Option Tmp->Prop
 |some t=>t<n
 |none=>True
theorem j8 {n:Nat} {dst:Option Tmp} (h:DE n dst):∀t,dst=some t->t<n:=fun t e=>by subst e;exact h
theorem MG {ro:Option Nat} {ρ:Operand->Value} {o:Oper} (h:∀c,o.op≠ .defer c):o.semAt (FR ro).round ρ=execOp ρ o:=Oper.semAt_eq ro ρ o h
theorem uF {cx:Cx} {o:Oper} {K:St->Prop} {s:St} (aHC:∀c,o.op≠ .defer c) (hd:DE cx.n o.dst)
  (h:∀a w,dF cx s a w->∃v w' d H',(execOp a.eval o).run cx.P w=.ok (.value v) w'/\D.is w' H'.others d v/\iK w' H'/\Ev s.H w H' w'/\K ((s.dY H').put o.dst d)):WO cx o K s:=fun a w m=>by
 refine⟨oH,?_⟩
 rw[MG aHC]
 obtain⟨v,w',d,H',h1,h2,h3,h4,h5⟩:=h a w m
 rw[h1,Oper.uponIn_value]
 exact⟨_,(m.go h4 h3).put (j8 hd) h2,h5⟩
theorem lB {cx:Cx} {o:Oper} {K:St->Prop} {s:St} (aHC:∀c,o.op≠ .defer c) (hd:DE cx.n o.dst)
  (h:∀a w,dF cx s a w->∃v d,(execOp a.eval o).run cx.P w=.ok (.value v) w/\D.is w s.H.others d v/\K (s.put o.dst d)):WO cx o K s:=
 uF aHC hd fun a w m=>by
  obtain⟨v,d,h1,h2,h3⟩:=h a w m
  exact⟨v,w,d,s.H,h1,h2,m.H,fT _ _,h3⟩
theorem WS {cx:Cx} {o:Oper} {K:St->Prop} {s:St} (aHC:∀c,o.op≠ .defer c) (hd:DE cx.n o.dst)
  (h:∀a w,dF cx s a w->∃w' H',(execOp a.eval o).run cx.P w=.ok .skip w'/\iK w' H'/\Ev s.H w H' w'/\K ((s.dY H').put o.dst (.val undef))):WO cx o K s:=fun a w m=>by
 refine⟨oH,?_⟩
 rw[MG aHC]
 obtain⟨w',H',h1,h3,h4,h5⟩:=h a w m
 rw[h1,Oper.uponIn_skip]
 exact⟨_,(m.go h4 h3).put (j8 hd) (by simp only[D.is]),h5⟩
theorem dZ {w:World} {S:Nat->Prop} {u v:Value} (h:D.is w S (.val u) v):v=u:=by simpa only[D.is] using h
theorem uA {w:World} {S:Nat->Prop} (u:Value):D.is w S (.val u) u:=by simp only[D.is]
def AQ (op:BinOp) (k:IntKind) (a b:Int) (K:D->Prop):Prop:=
 match op with
 | .add=>K (.val (.int k (k.wrap (a+b))))
 | .sub=>K (.val (.int k (k.wrap (a - b))))
 | .mul=>K (.val (.int k (k.wrap (a * b))))
 | .quo=>b≠0/\K (.val (.int k (k.wrap (a.tdiv b))))
 | .rem=>b≠0/\K (.val (.int k (a.tmod b)))
 | .and=>K (.val (.int k (bits .and k a b)))
 | .or=>K (.val (.int k (bits .or k a b)))
 | .xor=>K (.val (.int k (bits .xor k a b)))
 | .andNot=>K (.val (.int k (bits .andNot k a b)))
 | .eql=>K (.val (.bool (decide (a=b))))
 | .neq=>K (.val (.bool (decide (a≠b))))
 | .lss=>K (.val (.bool (decide (a<b))))
 | .leq=>K (.val (.bool (decide (a<=b))))
 | .gtr=>K (.val (.bool (decide (b<a))))
 | .geq=>K (.val (.bool (decide (b<=a))))
 |_=>False
def AR (op:BinOp) (a b:ByteArray) (K:D->Prop):Prop:=
 match op with
 | .add=>a.size+b.size<=9223372036854775807/\K (.val (.string (a++b)))
 | .eql=>K (.val (.bool (decide (a.toList=b.toList))))
 | .neq=>K (.val (.bool (decide (a.toList≠b.toList))))
 | .lss=>K (.val (.bool (Op.bytesLess a.toList b.toList)))
 | .leq=>K (.val (.bool (Op.bytesLess a.toList b.toList||decide (a.toList=b.toList))))
 | .gtr=>K (.val (.bool (!(Op.bytesLess a.toList b.toList||decide (a.toList=b.toList)))))
 | .geq=>K (.val (.bool (!Op.bytesLess a.toList b.toList)))
 |_=>False
def D.nilPtr:D->Option Bool
 | .val (.pointer none)=>some true
 | .val (.pointer (some _))| .ep _ _ _ _ _| .rp _=>some false
 |_=>none
def D.nK:D->Option Bool
 | .val (.slice none _ _)=>some true
 | .val (.slice (some _) _ _)=>some false
 | .os _ _ _ _ n=>if n=0 then none else some false
 | .seq _ els=>if els.length=0 then none else some false
 |_=>none
def D.mY:D->Option Bool
 | .val (.map none)=>some true
 | .val (.map (some _))=>some false
 |_=>none
def oL (op:BinOp) (b:Bool) (K:D->Prop):Prop:=
 match op with
 | .eql=>K (.val (.bool b))
 | .neq=>K (.val (.bool (!b)))
 |_=>False
def sF (P:Program) (op:BinOp) (t:TypeId) (x:D) (K:D->Prop):Prop:=
 match bQ P t,x.nilPtr with
 |some ⟨.ptr _,_,_,_⟩,some b=>oL op b K
 |_,_=>False
def qE (P:Program) (op:BinOp) (t:TypeId) (x:D) (K:D->Prop):Prop:=
 match bQ P t,x.nK with
 |some ⟨.slice _,_,_,_⟩,some b=>oL op b K
 |_,_=>False
def sE (P:Program) (op:BinOp) (t:TypeId) (x:D) (K:D->Prop):Prop:=
 match bQ P t,x.mY with
 |some ⟨.map _ _,_,_,_⟩,some b=>oL op b K
 |_,_=>False
def jK (P:Program) (t:TypeId):Prop:=match bQ P t with|some ⟨.bool,_,_,_⟩=>True|_=>False
def OS:List D->List D->Option (List Bool×Bool)
 |[],[]=>some ([],true)
 | .val (.int .i64 a)::x,.val (.int .i64 b)::y=>(match OS x y with|some (k,r)=>some (false::k,decide (a=b)&&r)|none=>none)
 | .val (.string a)::x,.val (.string b)::y=>(match OS x y with|some (k,r)=>some (true::k,decide (a.toList=b.toList)&&r)|none=>none)
 |_,_=>none
def aFn (P:Program) (t:TypeId) (ks:List Bool):Prop:=
 ∀(ds es:List D) (r:Bool) (vs us:List Value) (w:World) (S:Nat->Prop) (op:BinOp) (p q:Operand),OS ds es=some (ks,r)->aU w S ds vs->aU w S es us->
  (eqGuard op t p q (.agg vs.toArray) (.agg us.toArray)).run P w=.ok () w/\(Op.equal t (.agg vs.toArray) (.agg us.toArray)).run P w=.ok r w
def yM (P:Program) (op:BinOp) (t:TypeId) (x y:D) (K:D->Prop):Prop:=
 match x,y with
 | .val (.int k a),.val (.int k' b)=>
  (match op with
  | .shl=>0<=b/\K (.val (.int k (k.wrap (a * 2 ^ min b.toNat k.bits))))
  | .shr=>0<=b/\K (.val (.int k (a.fdiv (2 ^ min b.toNat k.bits))))
  |op=>k=k'/\AQ op k a b K)
 | .val (.string a),.val (.string b)=>AR op a b K
 | .val (.bool a),.val (.bool b)=>jK P t/\(match op with
  | .eql=>K (.val (.bool (decide (a=b))))
  | .neq=>K (.val (.bool (decide (a≠b))))
  |_=>False)
 | .agg ds,.agg es=>(match OS ds es with|some (ks,r)=>aFn P t ks/\oL op r K|none=>False)
 |x,.val (.pointer none)=>sF P op t x K
 |x,.val (.slice none _ _)=>qE P op t x K
 |x,.val (.map none)=>sE P op t x K
 |_,_=>False
theorem aIS {P:Program} {w:World} {op:BinOp} {t:TypeId} {k:IntKind} {a b:Int} {K:D->Prop} (h:AQ op k a b K):∃v,(binOp op t (.int k a) (.int k b)).run P w=.ok v w/\K (.val v):=by
 cases op <;> simp only[AQ] at h <;> first
  |exact⟨_,rfl,h⟩
  |(refine⟨_,?_,h.2⟩;have h0:=h.1;simp [binOp,Op.intDiv,h0];done)
  |(refine⟨_,?_,h⟩;simp [binOp,Op.intCmp,bne];done)
  |(refine⟨_,?_,h⟩;simp [binOp,Op.intCmp,bne];rfl)
  |exact h.elim
theorem aIT {P : Program} {w : World} {op : BinOp} {t : TypeId} {a b : ByteArray} {K : D -> Prop} (h : AR op a b K) : ∃ v, (binOp op t (.string a) (.string b)).run P w = .ok v w /\ K (.val v) := by
  have e : (a.toList == b.toList) = decide (a.toList = b.toList) := by
    by_cases h : a.toList = b.toList <;> simp [h]
  have e2 : (!decide (a.toList = b.toList)) = decide (a.toList ≠ b.toList) := by
    by_cases h : a.toList = b.toList <;> simp [h]
  cases op <;> simp only [AR] at h <;> first
    | (refine ⟨_, ?_, h⟩; simp only [binOp, Op.stringOp, e]; rfl)
    | (refine ⟨_, ?_, h⟩; simp only [binOp, Op.stringOp, e, e2]; rfl)
    | (refine ⟨_, ?_, h.2⟩
       have h0 : ¬ ((a.size + b.size : Nat) : Int) > IntKind.i64.max := by
        have h1 := h.1
        have : IntKind.i64.max = 9223372036854775807 := by decide
        omega
       simp only [binOp, Op.stringOp, h0, fW]; rfl)
    | exact h.elim
theorem aAz {w:World} {S:Nat->Prop} {d:D} {v:Value} {b:Bool} (h:D.is w S d v) (hb:d.nilPtr=some b):∃p:Option Addr,v=.pointer p/\p.isNone=b:=by
 cases d with
 |val u=>
  have e:=dZ h
  subst e
  cases v with
  |pointer p=>refine⟨p,rfl,?_⟩;cases p <;> simp [D.nilPtr] at hb <;> simp [hb]
  |_=>simp [D.nilPtr] at hb
 |ep=>simp only[D.is] at h;exact⟨_,h,by simpa [D.nilPtr] using hb⟩
 |rp cs=>simp only[D.is] at h;obtain⟨b,o,rfl,_⟩:=h;exact⟨_,rfl,by simpa [D.nilPtr] using hb⟩
 |_=>simp [D.nilPtr] at hb
theorem aAy {w:World} {S:Nat->Prop} {d:D} {v:Value} {b:Bool} (h:D.is w S d v) (hb:d.mY=some b):∃p:Option Nat,v=.map p/\p.isNone=b:=by
 cases d with
 |val u=>
  have e:=dZ h
  subst e
  cases v with
  |map p=>refine⟨p,rfl,?_⟩;cases p <;> simp [D.mY] at hb <;> simp [hb]
  |_=>simp [D.mY] at hb
 |_=>simp [D.mY] at hb
theorem aCX {w:World} {S:Nat->Prop} {d:D} {v:Value} {b:Bool} (h:D.is w S d v) (hb:d.nK=some b):∃p n c,v=.slice p n c/\p.isNone=b:=by
 cases d with
 |val u=>
  have e:=dZ h
  subst e
  cases v with
  |slice p n c=>refine⟨p,n,c,rfl,?_⟩;cases p <;> simp [D.nK] at hb <;> simp [hb]
  |_=>simp [D.nK] at hb
 |os b' o sz k n=>
  simp only[D.is] at h
  obtain⟨A,c,rfl,h1,h2⟩:=h
  simp only[D.nK] at hb
  split at hb
  ·cases hb
  ·rcases h2 with h2|⟨rfl,_⟩
   ·omega
   ·exact⟨_,_,_,rfl,by simpa using hb⟩
 |seq sz els=>
  simp only[D.is] at h
  obtain⟨A,c,rfl,h1,h2⟩:=h
  simp only[D.nK] at hb
  split at hb
  ·cases hb
  ·rename_i fM
   rcases h2 with h2|⟨_,_,rfl,_⟩
   ·subst h2;simp at fM
   ·exact⟨_,_,_,rfl,by simpa using hb⟩
 |_=>simp [D.nK] at hb
theorem aGb {P:Program} {w:World} (d:Nat) {t e:TypeId} (h:P.underlying t=some (.pointer e)) (p:Option Addr):(Op.equalIn (d+1) t (.pointer p) (.pointer none)).run P w=.ok p.isNone w:=by
 cases p <;> simp [Op.equalIn,bT h]
theorem QW {P:Program} {w:World} (d:Nat) {t e:TypeId} (h:P.underlying t=some (.slice e)) (p:Option Addr) (n c n' c':Nat):(Op.equalIn (d+1) t (.slice p n c) (.slice none n' c')).run P w=.ok p.isNone w:=by
 cases p <;> simp [Op.equalIn,bT h]
theorem aGa {P:Program} {w:World} (d:Nat) {t k e:TypeId} (h:P.underlying t=some (.map k e)) (p:Option Nat):(Op.equalIn (d+1) t (.map p) (.map none)).run P w=.ok p.isNone w:=by
 cases p <;> simp [Op.equalIn,bT h]
theorem aEr {P:Program} {w:World} (d:Nat) {t:TypeId} (h:P.underlying t=some .bool) (a b:Bool):(Op.equalIn (d+1) t (.bool a) (.bool b)).run P w=.ok (a==b) w:=by
 simp [Op.equalIn,bT h]
theorem FK {P:Program} {w:World} {op:BinOp} {t:TypeId} {v y:Value} {b:Bool} {K:D->Prop} (h:oL op b K) (hr:(Op.equal t v y).run P w=.ok b w) (he:binOp .eql t v y=(do pure (.bool (<-Op.equal t v y)))) (hn:binOp .neq t v y=(do pure (.bool (!(<-Op.equal t v y))))):
  ∃u,(binOp op t v y).run P w=.ok u w/\K (.val u):=by
 cases op <;> simp only[oL] at h <;> first
  |exact⟨_,by rw[he];simp [hr,Result.andThen],h⟩
  |exact⟨_,by rw[hn];simp [hr,Result.andThen],h⟩
  |exact h.elim
theorem aF2 {P:Program} {w:World} {S:Nat->Prop} {op:BinOp} {t:TypeId} {x:D} {v:Value} {K:D->Prop} (h:sF P op t x K) (hx:D.is w S x v):∃u,(binOp op t v (.pointer none)).run P w=.ok u w/\K (.val u):=by
 unfold sF at h
 split at h
 ·rename_i hT hb
  obtain⟨d,i,h1,h2,h3⟩:=eE hT
  obtain⟨p,rfl,hp⟩:=aAz hx hb
  injection h3 with h3
  cases d <;> simp [lV] at h3
  subst h3
  exact FK h (by rw[<-hp];exact aGb 9999 h1 p) rfl rfl
 ·exact h.elim
theorem aF3 {P:Program} {w:World} {S:Nat->Prop} {op:BinOp} {t:TypeId} {x:D} {v:Value} {n c:Nat} {K:D->Prop} (h:qE P op t x K) (hx:D.is w S x v):∃u,(binOp op t v (.slice none n c)).run P w=.ok u w/\K (.val u):=by
 unfold qE at h
 split at h
 ·rename_i hT hb
  obtain⟨d,i,h1,h2,h3⟩:=eE hT
  obtain⟨p,n',c',rfl,hp⟩:=aCX hx hb
  injection h3 with h3
  cases d <;> simp [lV] at h3
  subst h3
  exact FK h (by rw[<-hp];exact QW 9999 h1 p n' c' n c) rfl rfl
 ·exact h.elim
theorem aF1 {P:Program} {w:World} {S:Nat->Prop} {op:BinOp} {t:TypeId} {x:D} {v:Value} {K:D->Prop} (h:sE P op t x K) (hx:D.is w S x v):∃u,(binOp op t v (.map none)).run P w=.ok u w/\K (.val u):=by
 unfold sE at h
 split at h
 ·rename_i hT hb
  obtain⟨d,i,h1,h2,h3⟩:=eE hT
  obtain⟨p,rfl,hp⟩:=aAy hx hb
  injection h3 with h3
  cases d <;> simp [lV] at h3
  obtain⟨rfl,rfl⟩:=h3
  exact FK h (by rw[<-hp];exact aGa 9999 h1 p) rfl rfl
 ·exact h.elim
theorem rS {P:Program} {w:World} {op:BinOp} {t:TypeId} {x y:Operand} {a b:Value} (h:(∀c,a≠ .agg c)/\a≠ .nilIface\/(∀c,b≠ .agg c)/\b≠ .nilIface):(eqGuard op t x y a b).run P w=.ok () w:=by
 rcases h with⟨h1,h2⟩|⟨h1,h2⟩
 ·cases a <;> first|exact absurd rfl h2|exact absurd rfl (h1 _)|(unfold eqGuard;split <;> rfl)
 ·cases b <;> first|exact absurd rfl h2|exact absurd rfl (h1 _)|(unfold eqGuard;split <;> first|rfl|(cases a <;> rfl))
theorem aIU {P:Program} {w:World} {S:Nat->Prop} {op:BinOp} {t:TypeId} {x y:D} {a b:Value} {p q:Operand} {K:D->Prop} (h:yM P op t x y K) (hx:D.is w S x a) (hy:D.is w S y b):
  ∃u,(do eqGuard op t p q a b;binOp op t a b).run P w=.ok u w/\K (.val u):=by
 unfold yM at h
 split at h
 ·rename_i k a' k' b'
  have e1:=dZ hx
  have e2:=dZ hy
  subst e1 e2
  have hg:(eqGuard op t p q (.int k a') (.int k' b')).run P w=.ok () w:=rS (.inl (by simp))
  simp only[Sem.run_bind,hg,Result.andThen]
  split at h
  ·have h0:¬b'<0:=by omega
   refine⟨_,?_,h.2⟩
   simp [binOp,Op.shift,h0]
  ·have h0:¬b'<0:=by omega
   refine⟨_,?_,h.2⟩
   simp [binOp,Op.shift,h0]
  ·obtain⟨rfl,h⟩:=h
   exact aIS h
 ·rename_i a' b'
  have e1:=dZ hx
  have e2:=dZ hy
  subst e1 e2
  have hg:(eqGuard op t p q (.string a') (.string b')).run P w=.ok () w:=rS (.inl (by simp))
  simp only[Sem.run_bind,hg,Result.andThen]
  exact aIT h
 ·rename_i a' b'
  have e1:=dZ hx
  have e2:=dZ hy
  subst e1 e2
  have hg:(eqGuard op t p q (.bool a') (.bool b')).run P w=.ok () w:=rS (.inl (by simp))
  simp only[Sem.run_bind,hg,Result.andThen]
  obtain⟨h0,h⟩:=h
  have hu:P.underlying t=some .bool:=by
   unfold jK at h0
   split at h0
   ·rename_i heq
    obtain⟨d,i,h1,h2,h3⟩:=eE heq
    injection h3 with h3
    cases d <;> simp [lV] at h3
    exact h1
   ·exact h0.elim
  have hr:(Op.equal t (.bool a') (.bool b')).run P w=.ok (a'==b') w:=aEr 9999 hu a' b'
  have e3:(a'==b')=decide (a'=b'):=by cases a' <;> cases b' <;> rfl
  have e4:(!decide (a'=b'))=decide (a'≠b'):=by cases a' <;> cases b' <;> rfl
  split at h
  ·exact⟨.bool (a'==b'),by simp [binOp,hr,Result.andThen],by rw[e3];exact h⟩
  ·exact⟨.bool (!(a'==b')),by simp [binOp,hr,Result.andThen],by rw[e3,e4];exact h⟩
  ·exact h.elim
 ·split at h
  ·rename_i ks r hk
   simp only[D.is] at hx hy
   obtain⟨vs,rfl,hv⟩:=hx
   obtain⟨us,rfl,hu⟩:=hy
   obtain⟨h1,h2⟩:=h.1 _ _ _ _ _ w S op p q hk hv hu
   have h:=h.2
   simp only[Sem.run_bind,h1,Result.andThen]
   unfold oL at h
   split at h
   ·exact⟨.bool r,by simp [binOp,h2,Result.andThen],h⟩
   ·exact⟨.bool (!r),by simp [binOp,h2,Result.andThen],h⟩
   ·exact h.elim
  ·exact h.elim
 ·have e2:=dZ hy
  subst e2
  have hg:(eqGuard op t p q a (.pointer none)).run P w=.ok () w:=rS (.inr (by simp))
  simp only[Sem.run_bind,hg,Result.andThen]
  exact aF2 h hx
 ·rename_i x' y' n c
  have e2:=dZ hy
  subst e2
  have hg:(eqGuard op t p q a (.slice none n c)).run P w=.ok () w:=rS (.inr (by simp))
  simp only[Sem.run_bind,hg,Result.andThen]
  exact aF3 h hx
 ·have e2:=dZ hy
  subst e2
  have hg:(eqGuard op t p q a (.map none)).run P w=.ok () w:=rS (.inr (by simp))
  simp only[Sem.run_bind,hg,Result.andThen]
  exact aF1 h hx
 ·exact h.elim
def UK (op:UnOp) (x:D) (K:D->Prop):Prop:=
 match op,x with
 | .neg,.val (.int k n)=>K (.val (.int k (k.wrap (0 - n))))
 | .xor,.val (.int k n)=>K (.val (.int k (bits .xor k (if k.signed then -1 else k.max) n)))
 | .not,.val (.bool b)=>K (.val (.bool (!b)))
 |_,_=>False
theorem aLt {P:Program} {w:World} {S:Nat->Prop} {op:UnOp} {x:D} {v:Value} {K:D->Prop} (h:UK op x K) (hx:D.is w S x v):∃u,(Op.unary op v).run P w=.ok u w/\K (.val u):=by
 unfold UK at h
 split at h
 ·have e:=dZ hx;subst e;exact⟨_,rfl,h⟩
 ·have e:=dZ hx;subst e;exact⟨_,rfl,h⟩
 ·have e:=dZ hx;subst e;exact⟨_,rfl,h⟩
 ·exact h.elim
def nH (H:aC) (sz:Nat) (x:D) (K:List (List D)->Prop):Prop:=
 match x with
 | .seq DF els=>DF=sz/\K els
 | .os b o DF k n=>(match H b with
  |some (.row _ o' pF els)=>o'=o/\pF=DF/\DF=sz/\k+n<=els.length/\K ((els.drop k).take n)
  |_=>False)
 | .val (.slice none 0 _)=>K []
 | .TA=>K []
 |_=>False
theorem AV {H:aC} {w:World} (hH:iK w H) {sz:Nat} {x:D} {v:Value} {K:List (List D)->Prop} (h:nH H sz x K) (hx:D.is w H.others x v):
  ∃els A c,K els/\v=.slice A els.length c/\els.length<=c/\(els=[]\/∃b o,A=some ⟨b,o,none⟩/\b<w.heap.size/\eB w H.others b sz o els):=by
 unfold nH at h
 split at h
 ·obtain⟨rfl,h⟩:=h
  simp only[D.is] at hx
  obtain⟨A,c,rfl,h1,h2⟩:=hx
  refine⟨_,A,c,h,rfl,h1,?_⟩
  rcases h2 with h2|⟨b,o,h3,_,h4,h5⟩
  ·exact .inl h2
  ·exact .inr ⟨b,o,h3,h4,h5⟩
 ·split at h
  ·rename_i hb
   obtain⟨rfl,rfl,rfl,aS,h⟩:=h
   simp only[D.is] at hx
   obtain⟨A,c,rfl,h1,h2⟩:=hx
   obtain⟨cs,fr,h3,h4,h5,h6⟩:=hH _ _ hb
   have hl:∀(l:List (List D)) (k n:Nat),k+n<=l.length->((l.drop k).take n).length=n:=fun l k n h=>by rw[dU,nD];omega
   refine⟨_,A,c,h,by rw[hl _ _ _ aS],by rw[hl _ _ _ aS];exact h1,?_⟩
   rcases h2 with h2|⟨h2,_⟩
   ·left
    apply iX
    rw[hl _ _ _ aS];omega
   ·exact .inr ⟨_,_,h2,hH.lt hb,pU (vI h6 _) _⟩
  ·exact h.elim
 ·have e:=dZ hx
  subst e
  exact⟨[],_,_,h,rfl,oD _,.inl rfl⟩
 ·simp only[D.is] at hx
  obtain⟨A,rfl⟩:=hx
  exact⟨[],_,_,h,rfl,oD _,.inl rfl⟩
 ·exact h.elim
def bD (c:UInt8):List D:=[.val (.int .u8 (c.toNat:Int))]
def byteOf:List D->Option UInt8
 |[.val (.int .u8 n)]=>some (UInt8.ofNat n.toNat)
 |_=>none
def bytesOf:List (List D)->Option (List UInt8)
 |[]=>some []
 |e::els=>match byteOf e,bytesOf els with
  |some c,some l=>some (c::l)
  |_,_=>none
theorem aAI {e:List D} {c:UInt8} (h:byteOf e=some c):∃n,e=[.val (.int .u8 n)]/\c=UInt8.ofNat n.toNat:=by
 unfold byteOf at h
 split at h
 ·injection h with h;exact⟨_,rfl,h.symm⟩
 ·cases h
theorem I4 {w:World} {S:Nat->Prop} {b:Nat}:∀{els:List (List D)} {o:Nat} {l:List UInt8},bytesOf els=some l->eB w S b 1 o els->
  ∃ns:List Int,ns.length=els.length/\l=ns.map (fun n=>UInt8.ofNat n.toNat)/\∀i,i<ns.length->w.cell? ⟨b,o+i,none⟩=some (.int .u8 (ns.getD i 0))
 |[],_,l,h,_=>by simp [bytesOf] at h;subst h;exact⟨[],rfl,rfl,fun i hi=>by simp at hi⟩
 |e::els,o,l,h,hr=>by
  simp only[bytesOf] at h
  split at h
  ·rename_i c l' h1 h2
   injection h with h
   subst h
   simp only[eB] at hr
   obtain⟨n,rfl,rfl⟩:=aAI h1
   obtain⟨ns,h3,h4,h5⟩:=I4 h2 hr.2.2
   have hc:=hr.2.1
   simp only[dL,D.is] at hc
   obtain⟨⟨u,hu,_,rfl⟩,_⟩:=hc
   refine⟨n::ns,by simp [h3],by simp [h4],fun i hi=>?_⟩
   cases i with
   |zero=>exact hu
   |succ i=>rw[show o+(i+1)=o+1+i by omega];simpa using h5 i (by simpa using hi)
  ·cases h
def K3 (P:Program) (H:aC) (src dst:TypeId) (x:D) (K:D->Prop):Prop:=
 match bQ P src,bQ P dst with
 |some A,some B=>
  (match A.d,B.d,x with
  |_,.int k,.val (.int _ n)=>K (.val (.int k (k.wrap n)))
  |_,.string,.val (.string s)=>K (.val (.string s))
  | .slice e,.string,x=>(match bQ P e with
   |some ⟨.int .u8,_,_,_⟩=>nH H 1 x fun els=>match bytesOf els with
    |some l=>K (.val (.string (lE l)))
    |none=>False
   |_=>False)
  |_,_,_=>False)
 |_,_=>False
theorem aLh {P:Program} {H:aC} {w:World} (hH:iK w H) {src dst:TypeId} {x:D} {v:Value} {K:D->Prop} (h:K3 P H src dst x K) (hx:D.is w H.others x v):∃u,(convert src dst v).run P w=.ok u w/\K (.val u):=by
 unfold K3 at h
 split at h
 ·rename_i A B hA hB
  obtain⟨dA,iA,a1,a2,rfl⟩:=eE hA
  obtain⟨dB,iB,b1,b2,rfl⟩:=eE hB
  simp only at h
  split at h
  ·rename_i e1
   have e:=dZ hx
   subst e
   cases dB <;> simp [lV] at e1
   subst e1
   refine⟨_,?_,h⟩
   simp [convert,bT a1,bT b1,Conv.intToInt]
  ·rename_i e1
   have e:=dZ hx
   subst e
   cases dB <;> simp [lV] at e1
   refine⟨_,?_,h⟩
   cases dA <;> simp [convert,bT a1,bT b1]
  ·rename_i e' e1 e2 _
   cases dB <;> simp [lV] at e2
   cases dA <;> simp [lV] at e1
   subst e1
   split at h
   ·rename_i hE
    obtain⟨dE,iE,c1,c2,h3⟩:=eE hE
    injection h3 with h3
    cases dE <;> simp [lV] at h3
    subst h3
    obtain⟨els,A,c,hk,rfl,aS,CD⟩:=AV hH h hx
    cases hl:bytesOf els with
    |none=>rw[hl] at hk;exact hk.elim
    |some l=>
     rw[hl] at hk
     refine⟨_,?_,hk⟩
     rcases CD with rfl|⟨b,o,rfl,_,hr⟩
     ·simp [bytesOf] at hl
      subst hl
      rcases A with _|⟨b,o,sp⟩
      ·rw[run_convert_bytes_nil w src _ a1 c1 _ _ dst b1];rfl
      ·rw[run_convert_bytes_string w src dst _ _ _ c a1 c1 b1,wF,run_bytesToString w _ _ c [] (by simp [loadCells,loadCellsFrom])]
       rfl
     ·obtain⟨ns,h1,h2,h3⟩:=I4 hl hr
      rw[run_convert_bytes_arg w src _ a1 c1 b o els.length c ns (by omega) (fun i hi=>h3 i (by omega)) dst b1]
      have pY:ns.take els.length=ns:=cW (by omega)
      try rw[pY]
      have:strOfNums ns=lE l:=by
       rw[h2]
       simp only[strOfNums,lE]
      rw[this]
   ·exact h.elim
  ·exact h.elim
 ·exact h.elim
def rE (P:Program) (t:TypeId) (cs:List D) (uD:Nat) (K:D->Prop):Prop:=
 match bQ P t with
 |some T=>if T.d.agg then K (.agg ((cs.drop uD).take T.size)) else (match cs[uD]? with
  |some d=>K d
  |none=>False)
 |none=>False
theorem V5 {P:Program} {w:World} {S:Nat->Prop} {t:TypeId} {cs:List D} {vs:List Value} {uD:Nat} {K:D->Prop} (h:rE P t cs uD K) (hx:aU w S cs vs):∃u d,(Go.part t ⟨vs⟩ uD).run P w=.ok u w/\D.is w S d u/\K d:=by
 unfold rE at h
 split at h
 ·rename_i T hT
  split at h
  ·rename_i hag
   refine⟨.agg ((⟨vs⟩:Array Value).extract uD (uD+T.size)),_,?_,?_,h⟩
   ·unfold Go.part
    simp only[Sem.run_bind,FJ hT,hag,Result.andThen,fO,gR hT]
    rfl
   ·simp only[D.is]
    exact⟨((vs.drop uD).take T.size),by simp [List.extract_eq_take_drop,Nat.add_sub_cancel_left],kK _ (kJ _ hx)⟩
  ·rename_i hag
   split at h
   ·rename_i d hd
    obtain⟨v,h1,_,h2⟩:=I7 hx uD d hd
    refine⟨v,d,?_,h2,h⟩
    have h3:(⟨vs⟩:Array Value)[uD]?=some v:=by simpa using h1
    unfold Go.part
    simp only[Sem.run_bind,FJ hT,hag,Result.andThen,h3]
    rfl
   ·exact h.elim
 ·exact h.elim
def fieldsOf (P:Program) (t:TypeId):List (Nat×TypeId):=
 match bQ P t with
 |some ⟨.struct fs,_,_,_⟩=>fs
 |_=>[]
theorem G4 {P:Program} {t:TypeId} {f uD:Nat} {ft:TypeId} (h:(fieldsOf P t)[f]?=some (uD,ft)):∃fs fld,P.underlying t=some (.struct fs)/\fs[f]?=some fld/\fld.offset=uD/\fld.type=ft:=by
 unfold fieldsOf at h
 split at h
 ·rename_i hT
  obtain⟨d,i,h1,h2,h3⟩:=eE hT
  injection h3 with h3
  cases d <;> simp [lV] at h3
  rename_i aNg
  subst h3
  rw[dN] at h
  cases hf:aNg.toList[f]? with
  |none=>rw[hf] at h;simp at h
  |some fld=>
   rw[hf] at h
   simp at h
   exact⟨_,fld,h1,by simpa using hf,h.1,h.2⟩
 ·simp at h
def l3 (P:Program) (t:TypeId) (x:D) (f:Nat) (K:D->Prop):Prop:=
 match x,(fieldsOf P t)[f]? with
 | .agg cs,some (uD,ft)=>rE P ft cs uD K
 |_,_=>False
theorem aCb {P:Program} {w:World} {S:Nat->Prop} {t:TypeId} {x:D} {v:Value} {f:Nat} {K:D->Prop} (h:l3 P t x f K) (hx:D.is w S x v):∃u d,(Instr.field t v f).run P w=.ok u w/\D.is w S d u/\K d:=by
 unfold l3 at h
 split at h
 ·rename_i cs uD ft hf
  obtain⟨fs,fld,h1,h2,rfl,rfl⟩:=G4 hf
  simp only[D.is] at hx
  obtain⟨vs,rfl,hx⟩:=hx
  obtain⟨u,d,h3,h4,h5⟩:=V5 h hx
  refine⟨u,d,?_,h4,h5⟩
  unfold Instr.field
  simp only[Sem.run_bind,bT h1,Result.andThen,h2,asAgg,Sem.run_pure]
  exact h3
 ·exact h.elim
def TW (P:Program) (t:TypeId) (x:D) (f:Nat) (K:D->Prop):Prop:=
 match (fieldsOf P t)[f]? with
 |some (uD,ft)=>(match bQ P ft with
  |some T=>T.size≠0/\(match x with
   | .ep b o sz i k=>K (.ep b o sz i (k+uD))
   | .rp cs=>K (.rp (cs.drop uD))
   |_=>False)
  |none=>False)
 |none=>False
theorem aLk {P:Program} {w:World} {S:Nat->Prop} {t:TypeId} {x:D} {v:Value} {f:Nat} {K:D->Prop} (h:TW P t x f K) (hx:D.is w S x v):∃u d,(Instr.fieldAt t v f).run P w=.ok u w/\D.is w S d u/\K d:=by
 unfold TW at h
 split at h
 ·rename_i uD ft hf
  obtain⟨fs,fld,h1,h2,rfl,rfl⟩:=G4 hf
  split at h
  ·rename_i T hT
   obtain⟨lZ,h⟩:=h
   have key:∀a:Addr,(Instr.fieldAt t (.pointer (some a)) f).run P w=.ok (.pointer (some (a.add fld.offset))) w:=fun a=>by
    unfold Instr.fieldAt
    simp only[Sem.run_bind,bT h1,Result.andThen,h2,Instr.sureAddr,Sem.run_pure,fieldPlace,gR hT]
    rw[aA lZ]
    rfl
   split at h
   ·simp only[D.is] at hx
    subst hx
    refine⟨_,_,key _,?_,h⟩
    simp only[D.is]
    rw[Addr.add_lit,C0]
   ·simp only[D.is] at hx
    obtain⟨b,o,rfl,h3,h4,h5⟩:=hx
    refine⟨_,_,key _,?_,h⟩
    simp only[D.is]
    exact⟨b,o+fld.offset,by rw[Addr.add_lit],h3,h4,nM h5 _⟩
   ·exact h.elim
  ·exact h.elim
 ·exact h.elim
def UA (P:Program) (H:aC) (t:TypeId) (x ix:D) (K:D->Prop):Prop:=
 match ix,bQ P t with
 | .val (.int _ i),some T=>(match T.d with
  | .slice e=>(match bQ P e with
   |some E=>(match x with
    | .seq sz els=>sz=E.size/\0<=i/\(match els[i.toNat]? with
     |some el=>K (.rp el)
     |none=>False)
    | .os b o sz k n=>sz=E.size/\0<=i/\i<(n:Int)/\K (.ep b o sz (k+i.toNat) 0)
    |_=>False)
   |none=>False)
  | .array n e=>(match bQ P e with
   |some E=>0<=i/\i<(n:Int)/\(match x with
    | .ep b o sz j k=>K (.ep b o sz j (k+i.toNat * E.size))
    | .rp cs=>K (.rp (cs.drop (i.toNat * E.size)))
    |_=>False)
   |none=>False)
  |_=>False)
 |_,_=>False
theorem aLl {P:Program} {H:aC} {w:World} {t:TypeId} {x ix:D} {v u:Value} {K:D->Prop} (h:UA P H t x ix K) (hx:D.is w H.others x v) (hi:D.is w H.others ix u):∃r d,(Instr.indexAt t v u).run P w=.ok r w/\D.is w H.others d r/\K d:=by
 unfold UA at h
 split at h
 ·rename_i k i T hT
  have e:=dZ hi
  subst e
  obtain⟨d,inf,h1,h2,rfl⟩:=eE hT
  cases d <;> simp only[lV] at h <;> try exact h.elim
  ·rename_i e
   split at h
   ·rename_i E hE
    have key:∀(a:Addr) (n c:Nat),0<=i->i<(n:Int)->(Instr.indexAt t (.slice (some a) n c) (.int k i)).run P w=.ok (.pointer (some (a.add (i.toNat * E.size)))) w:=fun a n c h0 VF=>by
     unfold Instr.indexAt
     simp only[Sem.run_bind,asIntOf,Sem.run_pure,Result.andThen,bT h1]
     rw[aE ⟨h0,VF⟩]
     simp only[Sem.run_bind,gR hE,Result.andThen,Sem.run_pure]
    split at h
    ·rename_i sz els
     obtain⟨rfl,h0,h⟩:=h
     split at h
     ·rename_i el DB
      simp only[D.is] at hx
      obtain⟨A,c,rfl,h3,h4⟩:=hx
      have kL:i.toNat<els.length:=(mE.1 DB).1
      rcases h4 with h4|⟨b,o,rfl,h5,h6,h7⟩
      ·subst h4;simp at kL
      ·refine⟨_,_,key _ _ _ h0 (by omega),?_,h⟩
       simp only[D.is]
       exact⟨b,o+i.toNat * E.size,by rw[Addr.add_lit],h5,h6,(fH h7 _ _ DB).2⟩
     ·exact h.elim
    ·rename_i b o sz k' n
     obtain⟨rfl,h0,h3,h⟩:=h
     simp only[D.is] at hx
     obtain⟨A,c,rfl,h4,h5⟩:=hx
     rcases h5 with h5|⟨rfl,_⟩
     ·omega
     ·refine⟨_,_,key _ _ _ h0 h3,?_,h⟩
      simp only[D.is]
      rw[Addr.add_lit,gE]
      simp only[u6,C0]
    ·exact h.elim
   ·exact h.elim
  ·rename_i n e
   split at h
   ·rename_i E hE
    obtain⟨h0,h3,h⟩:=h
    have key:∀(a:Addr),(Instr.indexAt t (.pointer (some a)) (.int k i)).run P w=.ok (.pointer (some (a.add (i.toNat * E.size)))) w:=fun a=>by
     unfold Instr.indexAt
     simp only[Sem.run_bind,asIntOf,Sem.run_pure,Result.andThen,bT h1,Instr.sureAddr]
     rw[aE ⟨h0,h3⟩]
     simp only[Sem.run_bind,gR hE,Result.andThen,Sem.run_pure]
    split at h
    ·simp only[D.is] at hx
     subst hx
     refine⟨_,_,key _,?_,h⟩
     simp only[D.is]
     rw[Addr.add_lit,C0]
    ·simp only[D.is] at hx
     obtain⟨b,o,rfl,h4,h5,h6⟩:=hx
     refine⟨_,_,key _,?_,h⟩
     simp only[D.is]
     exact⟨b,_,by rw[Addr.add_lit],h4,h5,nM h6 _⟩
    ·exact h.elim
   ·exact h.elim
 ·exact h.elim
def UB (P:Program) (t:TypeId) (x ix:D) (K:D->Prop):Prop:=
 match ix,bQ P t with
 | .val (.int _ i),some T=>(match T.d,x with
  | .array n e,.agg cs=>(match bQ P e with
   |some E=>0<=i/\i<(n:Int)/\rE P e cs (i.toNat * E.size) K
   |none=>False)
  | .string,.val (.string s)=>0<=i/\(match s.data.toList[i.toNat]? with
   |some c=>K (.val (.int .u8 (c.toNat:Int)))
   |none=>False)
  |_,_=>False)
 |_,_=>False
theorem aLm {P:Program} {w:World} {S:Nat->Prop} {t:TypeId} {x ix:D} {v u:Value} {K:D->Prop} (h:UB P t x ix K) (hx:D.is w S x v) (hi:D.is w S ix u):∃r d,(Instr.index t v u).run P w=.ok r w/\D.is w S d r/\K d:=by
 unfold UB at h
 split at h
 ·rename_i k i T hT
  have e:=dZ hi
  subst e
  obtain⟨d,inf,h1,h2,rfl⟩:=eE hT
  simp only at h
  split at h
  ·rename_i n e cs e1
   cases d <;> simp [lV] at e1
   obtain⟨rfl,rfl⟩:=e1
   split at h
   ·rename_i E hE
    obtain⟨h0,h3,h⟩:=h
    simp only[D.is] at hx
    obtain⟨vs,rfl,hx⟩:=hx
    obtain⟨r,d,h4,h5,h6⟩:=V5 h hx
    refine⟨r,d,?_,h5,h6⟩
    unfold Instr.index
    simp only[Sem.run_bind,asIntOf,Sem.run_pure,Result.andThen,bT h1]
    rw[aE ⟨h0,h3⟩]
    simp only[Sem.run_bind,gR hE,Result.andThen]
    exact h4
   ·exact h.elim
  ·rename_i s e1
   cases d <;> simp [lV] at e1
   obtain⟨h0,h⟩:=h
   have e:=dZ hx
   subst e
   split at h
   ·rename_i c hc
    refine⟨_,_,?_,uA _,h⟩
    have h3:s[i.toNat]?=some c:=by
     have kL:=(mE.1 hc).1
     have aYc:i.toNat<s.size:=by rw[nB] at kL;exact kL
     have:=(mE.1 hc).2
     rw[getElem?_pos s i.toNat aYc,<-this]
     rfl
    unfold Instr.index
    simp only[Sem.run_bind,asIntOf,Sem.run_pure,Result.andThen,bT h1]
    rw[aE h0,h3]
    rfl
   ·exact h.elim
  ·exact h.elim
 ·exact h.elim
def UC (ag:Bool) (sz:Nat) (cs:List D) (K:D->Prop):Prop:=
 if ag then (if cs.length=sz then K (.agg cs) else sz<=cs.length/\K (.agg (cs.take sz)))
 else match cs with
  |d::_=>K d
  |[]=>False
theorem aEC {P:Program} {w:World} {S:Nat->Prop} {t:TypeId} {T:Ti} (hT:bQ P t=some T) {b o:Nat} {cs:List D} {K:D->Prop} (h:UC T.d.agg T.size cs K) (hc:dL w S b o cs):
  ∃v d,(loadVar t ⟨b,o,none⟩).run P w=.ok v w/\D.is w S d v/\K d:=by
 have agg:∀(ds:List D),ds.length=T.size->dL w S b o ds->T.d.agg=true->K (.agg ds)->∃v d,(loadVar t ⟨b,o,none⟩).run P w=.ok v w/\D.is w S d v/\K d:=by
  intro ds hl NA hag hk
  obtain⟨vs,h1,h2⟩:=fA NA
  have hvl:=fC h1
  refine⟨.agg ⟨vs⟩,.agg ds,?_,?_,hk⟩
  ·unfold loadVar
   simp only[Sem.run_bind,FJ hT,hag,Result.andThen,fO,gR hT]
   have:=run_loadCells_list (P:=P) w ⟨b,o,none⟩ vs (fun j v hj=>by rw[Addr.add_lit];exact h2 j v hj)
   rw[hvl,hl] at this
   rw[this]
   rfl
  ·simp only[D.is];exact⟨vs,rfl,h1⟩
 unfold UC at h
 split at h
 ·rename_i hag
  split at h
  ·rename_i hl
   exact agg cs hl hc hag h
  ·exact agg _ (by rw[dU];omega) (B2 hc _) hag h.2
 ·rename_i hag
  split at h
  ·rename_i d ds
   simp only[dL] at hc
   obtain⟨⟨u,h1,_,h2⟩,_⟩:=hc
   refine⟨u,d,?_,h2,h⟩
   unfold loadVar
   simp only[Sem.run_bind,FJ hT,hag,Result.andThen]
   simp [h1]
  ·exact h.elim
def EP (P:Program) (H:aC) (t:TypeId) (x:D) (K:D->Prop):Prop:=
 match bQ P t with
 |some T=>(match x with
  | .rp cs=>UC T.d.agg T.size cs K
  | .ep b o sz i k=>(match H b with
   |some (.row _ o' DF els)=>o'=o/\DF=sz/\(match els[i]? with
    |some el=>UC T.d.agg T.size (el.drop k) K
    |none=>False)
   |_=>False)
  |_=>False)
 |none=>False
theorem aED {P:Program} {H:aC} {w:World} (hH:iK w H) {t:TypeId} {x:D} {v:Value} {K:D->Prop} (h:EP P H t x K) (hx:D.is w H.others x v):∃u d,(Instr.loadAt t v).run P w=.ok u w/\D.is w H.others d u/\K d:=by
 unfold EP at h
 split at h
 ·rename_i T hT
  split at h
  ·simp only[D.is] at hx
   obtain⟨b,o,rfl,_,_,hc⟩:=hx
   obtain⟨u,d,h1,h2,h3⟩:=aEC hT h hc
   refine⟨u,d,?_,h2,h3⟩
   simp only[Instr.loadAt,Instr.sureAddr,Sem.run_bind,Sem.run_pure,Result.andThen]
   exact h1
  ·rename_i b o sz i k
   split at h
   ·rename_i hb
    obtain⟨rfl,rfl,h⟩:=h
    split at h
    ·rename_i el DB
     simp only[D.is] at hx
     subst hx
     obtain⟨cs,fr,h1,h2,h3,h4⟩:=hH _ _ hb
     have hc:=nM (fH h4 i el DB).2 k
     obtain⟨u,d,h5,h6,h7⟩:=aEC hT h hc
     refine⟨u,d,?_,h6,h7⟩
     simp only[Instr.loadAt,Instr.sureAddr,Sem.run_bind,Sem.run_pure,Result.andThen]
     exact h5
    ·exact h.elim
   ·exact h.elim
  ·exact h.elim
 ·exact h.elim
theorem pO {H:aC} {w w':World} {b:Nat} {x:fK} (hb:H b≠none) (e1:w'.os=w.os) (e2:w'.tape=w.tape) (e3:w'.output=w.output) (e4:w'.heap.size=w.heap.size) (ho:∀c,c≠b->w'.heap[c]?=w.heap[c]?)
  (hs:∀cs t fr,w.heap[b]?=some (Obj.cells cs t fr)->∃w9 fr',w'.heap[b]?=some (Obj.cells w9 t fr')/\w9.size=cs.size):Ev H w (H.bH b x) w' where
 os:=e1
 tape:=e2
 output:=e3
 size:=Nat.le_of_eq e4.symm
 fS:=fun c hc hn=>by
  have fM:c≠b:=fun e=>hb (e▸hn)
  exact⟨ho c fM,by rw[aN fM];exact hn⟩
 shape:=fun c cs t fr hc=>by
  by_cases e:c=b
  ·subst e;exact hs cs t fr hc
  ·exact⟨cs,fr,(ho c e).trans hc,rfl⟩
theorem mW {H:aC} {w w':World} {b:Nat} {x:fK} (hH:iK w H) (he:Ev H w (H.bH b x) w') (ho:∀c,c≠b->w'.heap[c]?=w.heap[c]?) (hx:sZ w' (H.bH b x) b x):iK w' (H.bH b x):=fun c y hc=>by
 by_cases e:c=b
 ·subst e
  rw[aO] at hc
  injection hc with hc
  subst hc
  exact hx
 ·rw[aN e] at hc
  exact he.sZ (ho c e) (hH c y hc)
def rG (el:List D) (k:Nat) (c:List D):List D:=el.take k++c++el.drop (k+c.length)
theorem Y7 {el c:List D} {k:Nat} (h:k+c.length<=el.length):(rG el k c).length=el.length:=by simp [rG];omega
def TK (P:Program) (H:aC) (t:TypeId) (x d:D) (K:aC->Prop):Prop:=
 match bQ P t,x,d.cells with
 |some T,.ep b o sz i k,some c=>c.length=T.size/\(match H b with
  |some (.row ty o' DF els)=>o'=o/\DF=sz/\(match els[i]? with
   |some el=>k+c.length<=el.length/\K (H.bH b (.row ty o sz (els.set i (rG el k c))))
   |none=>False)
  |_=>False)
 |_,_,_=>False
theorem wR {i j sz k:Nat} (h:i<j) (hk:k<sz):i * sz+k<j * sz:=by
 have:(i+1) * sz<=j * sz:=lQ _ h
 rw[gE] at this
 omega
theorem aLs {P:Program} {H:aC} {w:World} (hH:iK w H) {t:TypeId} {x d:D} {v u:Value} {K:aC->Prop} (h:TK P H t x d K) (hx:D.is w H.others x v) (hd:D.is w H.others d u):
  ∃w' H',(Instr.storeAt t v u).run P w=.ok () w'/\iK w' H'/\Ev H w H' w'/\K H':=by
 unfold TK at h
 split at h
 ·rename_i T b o sz i k c hT hc
  obtain⟨lZ,h⟩:=h
  split at h
  ·rename_i ty o' DF els hb
   obtain⟨rfl,rfl,h⟩:=h
   split at h
   ·rename_i el DB
    obtain⟨aS,h⟩:=h
    simp only[D.is] at hx
    subst hx
    have hu:=D.I8 hd hc
    have K7:=fC hu
    have VK:u.cells.toList.length=u.cells.size:=nB
    obtain⟨cs,fr,h1,h2,h3,h4⟩:=hH _ _ hb
    obtain⟨aOE,aYU⟩:=fH h4 i el DB
    have aQ3:i<els.length:=(mE.1 DB).1
    have N8:o'+i * DF+k+0+u.cells.toList.length<=cs.size:=by
     have:(i+1) * DF<=els.length * DF:=lQ _ aQ3
     rw[gE] at this
     omega
    obtain⟨w',yP,e1,e2,e3,e4,ho,w9,g1,g2,g3,g4⟩:=kA (P:=P) b ty fr u.cells.toList (o'+i * DF+k) 0 w cs h1 h2 N8 (sT hu)
    have lO:Ev H w (H.bH b (.row ty o' DF (els.set i (rG el k c)))) w':=pO (by rw[hb];simp) e1 e2 e3 e4 ho (fun cs0 t0 fr0 h0=>by
     rw[h1] at h0
     injection h0 with h0
     injection h0 with a1 a2 a3
     subst a1 a2 a3
     exact⟨w9,_,g1,g2⟩)
    refine⟨w',_,?_,mW hH lO ho ⟨w9,fr,g1,by rw[g2];exact h2,by rw[wD,g2];exact h3,?_⟩,lO,h⟩
    ·simp only[Instr.storeAt,Instr.sureAddr,Sem.run_bind,Sem.run_pure,Result.andThen,storeVar,gR hT]
     have:¬u.cells.size≠T.size:=by
      have:u.cells.size=u.cells.toList.length:=by simp
      omega
     rw[aA this]
     exact yP
    ·have aAJ:∀j,w'.cell? ⟨b,j,none⟩=w9[j]?:=fun j=>cell_of_row w' b j w9 ty fr g1
     have aGN:∀j,w.cell? ⟨b,j,none⟩=cs[j]?:=fun j=>cell_of_row w b j cs ty fr h1
     have fM:∀j':Nat,j'<o'+i * DF+k\/o'+i * DF+k+c.length<=j'->w'.cell? ⟨b,j',none⟩=w.cell? ⟨b,j',none⟩:=fun j' hj=>by
      rw[aAJ,aGN]
      exact g4 j' (by omega)
     refine gO fun i' el' hi'=>?_
     rw[P0] at hi'
     by_cases e:i=i'
     ·subst e
      rw[aE rfl] at hi'
      rw[aE aQ3] at hi'
      injection hi' with hi'
      subst hi'
      refine⟨by rw[Y7 aS];exact aOE,?_⟩
      obtain⟨vs,h5,h6⟩:=fA aYU
      have hvl:=fC h5
      have h5':=cK lO.kept _ h5
      have hu':=cK lO.kept _ hu
      refine fD (vs:=vs.take k++u.cells.toList++vs.drop (k+c.length)) (fB (fB (kK k h5') hu') (kJ _ h5')) fun j v hj=>?_
      rcases oC j k with hjk|hjk
      ·rw[fM _ (by omega)]
       apply h6
       rw[iR,r5 (by simp;omega),uS,aE hjk] at hj
       exact hj
      ·rcases oC j (k+c.length) with hjc|hjc
       ·rw[aAJ,show o'+i * DF+j=o'+i * DF+k+0+(j - k) by omega]
        apply g3
        rw[iR,wA (by simp;omega),r5 (by simp;omega)] at hj
        rw[<-hj]
        congr 1
        simp;omega
       ·rw[fM _ (by omega)]
        apply h6
        rw[wA (by simp;omega),wX] at hj
        rw[<-hj]
        congr 1
        simp;omega
     ·rw[aA e] at hi'
      obtain⟨h5,h6⟩:=fH h4 i' el' hi'
      refine⟨h5,?_⟩
      obtain⟨vs,h7,h8⟩:=fA h6
      have hvl:=fC h7
      refine fD (cK lO.kept _ h7) fun j v hj=>?_
      have fQ:j<DF:=by
       have:=(mE.1 hj).1
       omega
      rw[fM _ ?_]
      ·exact h8 j v hj
      ·rcases oC i' i with kL|GM
       ·have:=wR kL fQ
        omega
       ·have kL:i<i':=by omega
        have:(i+1) * DF<=i' * DF:=lQ _ kL
        rw[gE] at this
        omega
   ·exact h.elim
  ·exact h.elim
 ·exact h.elim
def W4 (H:aC) (JE:TypeId) (d:D) (K:D->aC->Prop):Prop:=
 match d.cells with
 |some cs=>∀b,H b=none->K (.ep b 0 cs.length 0 0) (H.bH b (.row JE 0 cs.length [cs]))
 |none=>False
theorem aLg {P:Program} {H:aC} {w:World} (hH:iK w H) {JE:TypeId} {d:D} {v:Value} {K:D->aC->Prop} (h:W4 H JE d K) (hd:D.is w H.others d v):
  ∃r d' w' H',(do pure (Value.pointer (some (<-newVar JE v))):Sem Value).run P w=.ok r w'/\D.is w' H'.others d' r/\iK w' H'/\Ev H w H' w'/\K d' H':=by
 unfold W4 at h
 split at h
 ·rename_i cs hc
  have hu:=D.I8 hd hc
  have hl:=fC hu
  refine⟨.pointer (some ⟨w.heap.size,0,none⟩),_,w.alloc (Obj.cells v.cells JE),_,?_,?_,?_,jZ _ _ hH,h w.heap.size (jF hH)⟩
  ·simp only[newVar,newRow,newObj,Sem.run_bind,Sem.run_pure,Result.andThen,Sem.run]
   rfl
  ·simp only[D.is];simp
  ·have:=MF (els:=[cs]) (vs:=v.cells.toList) hH JE cs.length (by simpa using hu) (fun el DB=>by simp at DB;rw[DB]) (by simp at hl ⊢;omega)
   simpa using this
 ·exact h.elim
def WW (P:Program) (H:aC) (JE:TypeId) (K:D->aC->Prop):Prop:=
 match bQ P JE with
 |some ⟨_,_,_,some zs⟩=>zs.all Value.oneCell'=true/\∀b,H b=none->K (.ep b 0 zs.length 0 0) (H.bH b (.row JE 0 zs.length [zs.map .val]))
 |_=>False
theorem vK {P:Program} {t:TypeId} {T:Ti} {zs:List Value} (hT:bQ P t=some T) (hz:T.zero=some zs) (w:World):∃z,(zeroValue t).run P w=.ok z w/\z.cells.toList=zs:=by
 obtain⟨i,h1,h2,h3,h4,h5⟩:=rH hT w
 rw[h4] at hz
 cases hi:i.zero with
 |none=>rw[hi] at hz;simp at hz
 |some z=>
  rw[hi] at hz
  simp at hz
  refine⟨z,?_,hz⟩
  unfold zeroValue
  simp only[Sem.run_bind,h1,Result.andThen,hi,Sem.run_pure]
theorem aL9 {P:Program} {H:aC} {w:World} (hH:iK w H) {JE:TypeId} {K:D->aC->Prop} (h:WW P H JE K):
  ∃r d' w' H',(Instr.alloc JE true (.tuple #[])).run P w=.ok r w'/\D.is w' H'.others d' r/\iK w' H'/\Ev H w H' w'/\K d' H':=by
 unfold WW at h
 split at h
 ·rename_i hT
  obtain⟨h1,h⟩:=h
  rename_i zs
  obtain⟨z,h2,h3⟩:=vK hT rfl w
  refine⟨.pointer (some ⟨w.heap.size,0,none⟩),_,w.alloc (Obj.cells z.cells JE),_,?_,?_,?_,jZ _ _ hH,h w.heap.size (jF hH)⟩
  ·simp only[Instr.alloc,Sem.run_bind,h2,Result.andThen,newVar,newRow,newObj,Sem.run_pure,Sem.run]
   rfl
  ·simp only[D.is];simp
  ·have hu:aU w H.others (zs.map .val) z.cells.toList:=by rw[h3];exact oO zs (fun v hv=>(eZ.1 h1) v hv)
   have:=MF (els:=[zs.map .val]) (vs:=z.cells.toList) hH JE zs.length (by simpa using hu) (fun el DB=>by simp at DB;rw[DB];simp) (by rw[h3];simp)
   simpa using this
 ·exact h.elim
def AS (aBH:Nat->Option (Nat×Nat)):List D->List (Nat×D)->Option (List D)
 |cs,[]=>some cs
 |cs,(i,d)::eJ=>
  match aBH i,d.cells with
  |some (uD,size),some c=>if c.length=size/\uD+c.length<=cs.length then AS aBH (rG cs uD c) eJ else none
  |_,_=>none
theorem VD (uD:Nat):∀(vs:List Value) (j:Nat) (cs:Array Value),uD+j+vs.length<=cs.size->
  ((vs.zipIdx j).foldl (fun cs (x:Value×Nat)=>cs.setIfInBounds (uD+x.2) x.1) cs).toList=cs.toList.take (uD+j)++vs++cs.toList.drop (uD+j+vs.length)
 |[],j,cs,h=>by simp
 |v::vs,j,cs,h=>by
  simp only[List.zipIdx_cons,KX]
  rw[VD uD vs (j+1) _ (by simp at h ⊢;omega)]
  have kL:uD+j<cs.toList.length:=by simp at h ⊢;omega
  simp only[Array.toList_setIfInBounds,eO]
  have e1:(cs.toList.set (uD+j) v).take (uD+(j+1))=cs.toList.take (uD+j)++[v]:=by
   rw[show uD+(j+1)=uD+j+1 by omega,List.take_add_one,PM kL]
   rw[List.take_set_of_le (by omega)]
   rfl
  have e2:(cs.toList.set (uD+j) v).drop (uD+(j+1)+vs.length)=cs.toList.drop (uD+j+(vs.length+1)):=by
   rw[List.drop_set_of_lt (by omega)]
   congr 1
   omega
  rw[e1,e2]
  simp
theorem aAT (uD:Nat) (v:Value) (cs:Array Value) (h:uD+v.cells.size<=cs.size):
  (v.cells.zipIdx.foldl (fun cs (x:Value×Nat)=>cs.setIfInBounds (uD+x.2) x.1) cs).toList=cs.toList.take uD++v.cells.toList++cs.toList.drop (uD+v.cells.size):=by
 have:=VD uD v.cells.toList 0 cs (by simpa using h)
 rw[<-Array.foldl_toList]
 simpa using this
def oV (w:World) (S:Nat->Prop):List (Nat×D)->List (Nat×Value)->Prop
 |[],vs=>vs=[]
 |(i,d)::ds,vs=>∃v us,vs=(i,v)::us/\D.is w S d v/\oV w S ds us
theorem aAS {w:World} {S:Nat->Prop} {aBH:Nat->Option (Nat×Nat)}:∀{ds:List (Nat×D)} {vs:List (Nat×Value)} {cs r:List D} {us:Array Value},oV w S ds vs->AS aBH cs ds=some r->aU w S cs us.toList->
  ∃K9,Instr.fill aBH us vs=some K9/\aU w S r K9.toList
 |[],vs,cs,r,us,h,hb,hc=>by
  simp only[oV] at h
  subst h
  simp only[AS] at hb
  injection hb with hb
  subst hb
  exact⟨us,rfl,hc⟩
 |(i,d)::ds,vs,cs,r,us,h,hb,hc=>by
  simp only[oV] at h
  obtain⟨v,vs',rfl,h1,h2⟩:=h
  simp only[AS] at hb
  split at hb
  ·rename_i uD size c hp hdc
   split at hb
   ·rename_i aS
    have hu:=D.I8 h1 hdc
    have hl:=fC hu
    have K7:=fC hc
    have e1:v.cells.toList.length=v.cells.size:=nB
    have e2:us.toList.length=us.size:=nB
    simp only[Instr.fill,hp]
    have hn:¬(decide (v.cells.size≠size)||decide (uD+v.cells.size>us.size))=true:=by
     simp;omega
    rw[aA hn]
    refine aAS h2 hb ?_
    have:=aAT uD v us (by omega)
    rw[show(v.cells.zipIdx.foldl (fun cs (x:Value×Nat)=>match x with|(c,j)=>cs.setIfInBounds (uD+j) c) us)=v.cells.zipIdx.foldl (fun cs (x:Value×Nat)=>cs.setIfInBounds (uD+x.2) x.1) us from rfl,this]
    unfold rG
    rw[show uD+c.length=uD+v.cells.size by omega]
    exact fB (fB (kK _ hc) hu) (kJ _ hc)
   ·cases hb
  ·cases hb
def iN (P:Program) (t:TypeId):Nat->Option (Nat×Nat):=
 match bQ P t with
 |some ⟨.struct fs,_,_,_⟩=>fun i=>match fs[i]? with
  |some (uD,ft)=>(match bQ P ft with
   |some T=>some (uD,T.size)
   |none=>none)
  |none=>none
 |some ⟨.array _ e,_,_,_⟩=>fun i=>match bQ P e with
  |some E=>some (i * E.size,E.size)
  |none=>none
 |_=>fun _=>none
def iL (P:Program) (t:TypeId):Bool:=
 match bQ P t with
 |some ⟨.struct fs,_,_,_⟩=>fs.all fun f=>(bQ P f.2).isSome
 |some ⟨.array _ e,_,_,_⟩=>(bQ P e).isSome
 |_=>false
def TS (P:Program) (t:TypeId) (ds:List (Nat×D)) (K:D->Prop):Prop:=
 match bQ P t with
 |some ⟨_,_,_,some zs⟩=>zs.all Value.oneCell'=true/\iL P t=true/\(match AS (iN P t) (zs.map .val) ds with
  |some cs=>K (.agg cs)
  |none=>False)
 |_=>False
theorem Q0 {p q:Nat->Option (Nat×Nat)}:∀{vs:List (Nat×Value)} {us:Array Value},(∀x∈vs,p x.1=q x.1)->Instr.fill p us vs=Instr.fill q us vs
 |[],_,_=>rfl
 |(i,v)::vs,us,h=>by
  simp only[Instr.fill]
  rw[<-h (i,v) (by simp)]
  cases hp:p i with
  |none=>rfl
  |some x=>
   obtain⟨uD,size⟩:=x
   simp only
   split
   ·rfl
   ·exact Q0 fun x hx=>h x (by simp [hx])
theorem aDo {P:Program} {w:World} {α β:Type} (f:α->Sem β) (g:α->β):∀(l:List α),(∀x∈l,(f x).run P w=.ok (g x) w)->(l.mapM f).run P w=.ok (l.map g) w
 |[],_=>rfl
 |x::l,h=>by
  rw[List.mapM_cons]
  simp only[Sem.run_bind,h x (by simp),Result.andThen,aDo f g l (fun y hy=>h y (by simp [hy])),Sem.run_pure,eU]
theorem aLc {P:Program} {w:World} {S:Nat->Prop} {t:TypeId} {ds:List (Nat×D)} {vs:Array (Nat×Value)} {K:D->Prop} (h:TS P t ds K) (hx:oV w S ds vs.toList):
  ∃u d,(Instr.build t vs).run P w=.ok u w/\D.is w S d u/\K d:=by
 unfold TS at h
 split at h
 ·rename_i dd _ _ zs hT
  obtain⟨h1,fF,h⟩:=h
  split at h
  ·rename_i cs NA
   obtain⟨z,h2,h3⟩:=vK hT rfl w
   have hz:aU w S (zs.map .val) z.cells.toList:=by rw[h3];exact oO zs (fun v hv=>(eZ.1 h1) v hv)
   obtain⟨us,h4,h5⟩:=aAS hx NA hz
   refine⟨.agg us,.agg cs,?_,by simp only[D.is];exact⟨us.toList,by simp,h5⟩,h⟩
   obtain⟨d,i,a1,a2,a3⟩:=eE hT
   injection a3 with a3
   unfold Instr.build
   simp only[Sem.run_bind,h2,Result.andThen,bT a1]
   cases d with
   |struct fs=>
    simp only[lV] at a3
    subst a3
    have zB:(fs.mapM fun f=>(do pure (f.offset,<-sizeOf f.type):Sem (Nat×Nat))).run P w=.ok (fs.map fun f=>(f.offset,P.cellsOf f.type)) w:=by
     rw[Array.mapM_eq_mapM_toList]
     have:=aDo (P:=P) (w:=w) (fun f:Field=>(do pure (f.offset,<-sizeOf f.type):Sem (Nat×Nat))) (fun f=>(f.offset,P.cellsOf f.type)) fs.toList (fun f hf=>by
      have hs:(bQ P f.type).isSome=true:=by
       unfold iL at fF
       rw[hT] at fF
       simp only[List.all_map,eZ] at fF
       exact fF f hf
      cases OA:bQ P f.type with
      |none=>rw[OA] at hs;cases hs
      |some T=>
       obtain⟨i',b1,b2,b3,b4,b5⟩:=rH OA w
       simp only[Sem.run_bind,gR OA,Result.andThen,Sem.run_pure,Program.cellsOf,b5,b2]
       rfl)
     simp only[map_eq_pure_bind,Sem.run_bind,this,Result.andThen,Sem.run_pure]
     congr 1
     exact n9 (by simp)
    simp only[zB,Sem.run_bind,Result.andThen]
    have e:Instr.fill (fun i=>(fs.map fun f=>(f.offset,P.cellsOf f.type))[i]?) z.cells vs.toList=Instr.fill (iN P t) z.cells vs.toList:=by
     refine Q0 fun x _=>?_
     unfold iN
     rw[hT]
     simp only[dN,KU,KP]
     cases hf:fs[x.1]? with
     |none=>rfl
     |some f=>
      have hs:(bQ P f.type).isSome=true:=by
       unfold iL at fF
       rw[hT] at fF
       simp only[List.all_map,eZ] at fF
       exact fF f (by rw[Array.mem_toList_iff];exact F1 hf)
      simp only[mG]
      cases OA:bQ P f.type with
      |none=>rw[OA] at hs;cases hs
      |some T=>
       obtain⟨i',b1,b2,b3,b4,b5⟩:=rH OA w
       simp only[Program.cellsOf,b5,b2]
       rfl
    rw[e,h4]
    rfl
   |array n el=>
    cases hE:bQ P el with
    |none=>
     exfalso
     unfold iL at fF
     rw[hT,a3] at fF
     simp only[lV,hE] at fF
     cases fF
    |some E=>
     simp only[Sem.run_bind,gR hE,Result.andThen]
     have e:Instr.fill (fun i=>some (i * E.size,E.size)) z.cells vs.toList=Instr.fill (iN P t) z.cells vs.toList:=by
      refine Q0 fun x _=>?_
      unfold iN
      rw[hT,a3]
      simp only[lV,hE]
     rw[e,h4]
     rfl
   |_=>
    exfalso
    unfold iL at fF
    rw[hT,a3] at fF
    cases fF
  ·exact h.elim
 ·exact h.elim
theorem vJ {w:World} {S:Nat->Prop} {b sz:Nat}:∀{els:List (List D)} {o:Nat},eB w S b sz o els->∃vs,aU w S els.flatten vs/\vs.length=els.length * sz/\∀(j:Nat) (v:Value),vs[j]?=some v->w.cell? ⟨b,o+j,none⟩=some v
 |[],_,_=>⟨[],by simp [aU],by simp,fun j v h=>by simp at h⟩
 |e::els,o,h=>by
  simp only[eB] at h
  obtain⟨h1,h2,h3⟩:=h
  obtain⟨vs,h4,h5⟩:=fA h2
  obtain⟨us,h6,h7,h8⟩:=vJ h3
  have hl:=fC h4
  refine⟨vs++us,by rw[CX];exact fB h4 h6,by simp [h7,gE];omega,fun j v hj=>?_⟩
  rcases oC j vs.length with kL|GM
  ·rw[r5 kL] at hj;exact h5 j v hj
  ·rw[wA GM] at hj
   have:=h8 _ v hj
   rwa[show o+sz+(j - vs.length)=o+j by omega] at this
theorem Q3 {sz:Nat}:∀{els:List (List D)} {i:Nat} {el:List D},(∀e∈els,e.length=sz)->els[i]?=some el->(els.flatten.drop (i * sz)).take sz=el
 |[],i,el,_,h=>by simp at h
 |e::els,0,el,hs,h=>by
  simp at h
  subst h
  have:=hs e (by simp)
  simp [<-this]
 |e::els,i+1,el,hs,h=>by
  have h1:=hs e (by simp)
  have h2:=Q3 (fun x hx=>hs x (by simp [hx])) (show els[i]?=some el by simpa using h)
  rw[CX,gE,Nat.one_mul,List.drop_append,zK (by omega),h1,gZ]
  simpa [Nat.add_sub_cancel] using h2
theorem CI {w:World} {S:Nat->Prop} {b sz o:Nat} {els:List (List D)} {vs:List Value} (hs:∀e∈els,e.length=sz) (hv:aU w S els.flatten vs) (hc:∀(j:Nat) (v:Value),vs[j]?=some v->w.cell? ⟨b,o+j,none⟩=some v):eB w S b sz o els:=
 gO fun i el hi=>⟨hs el (iQ hi),by
  have h1:=kK sz (kJ (i * sz) hv)
  rw[Q3 hs hi] at h1
  refine fD h1 fun j v hj=>?_
  rw[uS] at hj
  split at hj
  ·rw[wX] at hj
   rw[C0]
   exact hc _ v hj
  ·cases hj⟩
theorem s8 {w:World} {S:Nat->Prop} {b sz o:Nat} {els:List (List D)} (h:eB w S b sz o els):∀e∈els,e.length=sz:=fun e he=>by
 obtain⟨i,hi⟩:=AJ he
 exact(fH h i e hi).1
def qI (sz:Nat):List (Nat×D)->Nat->Option (List (List D))
 |[],_=>some []
 |(i,d)::ds,k=>if i=k then (match d.cells,qI sz ds (k+1) with
  |some c,some els=>if c.length=sz then some (c::els) else none
  |_,_=>none) else none
def S8 (P:Program) (H:aC) (t:TypeId) (len:Nat) (ds:List (Nat×D)) (K:D->aC->Prop):Prop:=
 match bQ P t with
 |some ⟨.slice e,_,_,_⟩=>(match bQ P e with
  |some ⟨_,sz,_,some zs⟩=>zs.length=sz/\ds.length=len/\len * sz<=16777216/\(match qI sz ds 0 with
   |some els=>∀b,H b=none->K (.os b 0 sz 0 len) (H.bH b (.row e 0 sz els))
   |none=>False)
  |_=>False)
 |_=>False
theorem ID {w:World} {S:Nat->Prop} {sz:Nat}:∀{ds:List (Nat×D)} {k:Nat} {els:List (List D)} {vs:List (Nat×Value)},qI sz ds k=some els->oV w S ds vs->
  els.length=ds.length/\(∀e∈els,e.length=sz)/\∀(us:Array Value),(k+ds.length) * sz<=us.size->∃K9,Instr.fill (fun i=>some (i * sz,sz)) us vs=some K9/\K9.size=us.size/\K9.toList.take (k * sz)=us.toList.take (k * sz)/\aU w S els.flatten ((K9.toList.drop (k * sz)).take (ds.length * sz))
 |[],k,els,vs,h,hp=>by
  simp only[qI] at h
  injection h with h
  subst h
  simp only[oV] at hp
  subst hp
  exact⟨rfl,by simp,fun us _=>⟨us,rfl,rfl,rfl,by simp [aU]⟩⟩
 |(i,d)::ds,k,els,vs,h,hp=>by
  simp only[qI] at h
  split at h
  ·rename_i TH
   subst TH
   split at h
   ·rename_i c aNe hc hr
    split at h
    ·rename_i BB
     injection h with h
     subst h
     simp only[oV] at hp
     obtain⟨v,vs',rfl,h1,h2⟩:=hp
     obtain⟨h3,h4,h5⟩:=ID hr h2
     have hu:=D.I8 h1 hc
     have hl:=fC hu
     have e1:v.cells.toList.length=v.cells.size:=nB
     refine⟨by simp [h3],by simpa [BB] using h4,fun us VK=>?_⟩
     have aQY:(i+(ds.length+1)) * sz=i * sz+sz+ds.length * sz:=by rw[gE,gE];omega
     simp only[eO,aQY] at VK
     have mM:=aAT (i * sz) v us (by omega)
     have aQw:(v.cells.zipIdx.foldl (fun cs (x:Value×Nat)=>cs.setIfInBounds (i * sz+x.2) x.1) us).size=us.size:=by
      rw[<-nB,mM]
      simp
      omega
     obtain⟨K9,h6,h7,h8,h9⟩:=h5 (v.cells.zipIdx.foldl (fun cs (x:Value×Nat)=>cs.setIfInBounds (i * sz+x.2) x.1) us) (by
      rw[aQw,gE,gE];omega)
     have pB:(i+1) * sz=i * sz+sz:=by rw[gE];omega
     rw[pB] at h8 h9
     refine⟨K9,?_,by rw[h7,aQw],?_,?_⟩
     ·simp only[Instr.fill]
      have hn:¬(decide (v.cells.size≠sz)||decide (i * sz+v.cells.size>us.size))=true:=by simp;omega
      rw[aA hn]
      exact h6
     ·have:=cS (List.take (i * sz)) h8
      rw[KY,KY,mM] at this
      rw[show min (i * sz) (i * sz+sz)=i * sz by omega] at this
      rw[this,iR,EW (by simp;omega),KY,Nat.min_self]
     ·have aYg:(K9.toList.drop (i * sz)).take sz=v.cells.toList:=by
       have:=cS (fun l=>(l.drop (i * sz))) h8
       simp only[List.drop_take] at this
       rw[show i * sz+sz - i * sz=sz by omega,mM] at this
       rw[this,iR,List.drop_append,dU,nB]
       rw[zK (by simp;omega),show i * sz - min (i * sz) us.size=0 by omega,gZ,jB,EW (by omega),cW (by omega)]
      have HS:(K9.toList.drop (i * sz)).take ((ds.length+1) * sz)=v.cells.toList++(K9.toList.drop (i * sz+sz)).take (ds.length * sz):=by
       rw[<-aYg,gE,Nat.one_mul,Nat.add_comm (ds.length * sz) sz,List.take_add,zU]
      rw[eO,HS,CX]
      exact fB hu h9
    ·cases h
   ·cases h
  ·cases h
theorem aBO {P:Program} {H:aC} {w:World} (hH:iK w H) {t:TypeId} {len:Nat} {ds:List (Nat×D)} {vs:Array (Nat×Value)} {K:D->aC->Prop} (h:S8 P H t len ds K) (hx:oV w H.others ds vs.toList):
  ∃r d' w' H',(Instr.buildSlice t len vs).run P w=.ok r w'/\D.is w' H'.others d' r/\iK w' H'/\Ev H w H' w'/\K d' H'/\∃A,r=.slice A len len:=by
 unfold S8 at h
 split at h
 ·rename_i e _ _ _ hT
  split at h
  ·rename_i dE sz byE zs hE
   obtain⟨NH,fJ,aS,h⟩:=h
   split at h
   ·rename_i els GI
    obtain⟨d,i,a1,a2,a3⟩:=eE hT
    injection a3 with a3
    cases d <;> simp [lV] at a3
    subst a3
    obtain⟨z,hz,hzc⟩:=vK hE rfl w
    obtain⟨h1,h2,h3⟩:=ID GI hx
    obtain⟨zero,aD6⟩:∃zero:Array Value,zero=if len * sz=0 then #[] else z.cells:=⟨_,rfl⟩
    obtain⟨K9,h4,h5,_,h6⟩:=h3 ((Array.range (len * sz)).map (zero[·% zero.size]!)) (by simp [fJ])
    rw[C5,jB,fJ] at h6
    have h7:K9.toList.take (len * sz)=K9.toList:=cW (by rw[nB,h5];simp)
    rw[h7] at h6
    refine⟨.slice (some ⟨w.heap.size,0,none⟩) len len,_,w.alloc (Obj.cells K9 e),_,?_,?_,?_,jZ _ _ hH,h w.heap.size (jF hH),_,rfl⟩
    ·unfold Instr.buildSlice
     simp only[Sem.run_bind,bT a1,Result.andThen,gR hE]
     rw[aA (by omega)]
     by_cases h0:len * sz=0
     ·rw[aE h0] at aD6 ⊢
      subst aD6
      simp only[Sem.run_bind,Sem.run_pure,Result.andThen,h4,newRow,newObj,Sem.run]
      rfl
     ·rw[aA h0] at aD6 ⊢
      subst aD6
      simp only[Sem.run_bind,hz,Sem.run_pure,Result.andThen,h4,newRow,newObj,Sem.run]
      rfl
    ·simp only[D.is]
     refine⟨_,_,rfl,dI _,?_⟩
     rcases KS len with h0|h0
     ·exact .inl h0
     ·right
      refine⟨by simp,K9,e,(0,0),heap_alloc_new w _,?_⟩
      rw[h5]
      simp
    ·have:=MF (vs:=K9.toList) hH e sz els h6 h2 (by rw[h1,fJ,nB,h5];simp)
     simpa using this
   ·exact h.elim
  ·exact h.elim
 ·exact h.elim
theorem aEB {P:Program} {H:aC} {w:World} (hH:iK w H) {t:TypeId} {len:Nat} {ds:List (Nat×D)} {vs:Array (Nat×Value)} {K:D->aC->Prop} (h:S8 P H t len ds K) (hx:oV w H.others ds vs.toList):
  ∃r d' w' H',(Instr.buildSlice t len vs).run P w=.ok r w'/\D.is w' H'.others d' r/\iK w' H'/\Ev H w H' w'/\K d' H':=
 let ⟨r,d',w',H',h1,h2,h3,h4,h5,_⟩:=aBO hH h hx
 ⟨r,d',w',H',h1,h2,h3,h4,h5⟩
end Go.Proofs.YtfiipaodjpiooaaGreatDoor

