/- Lemmas and contracts of functions, several texts in one. -/
import Derived.Test.YtelbfbioomcmeaaGreatDoorQ01
import Derived.Laws.MakeOwn
import Derived.Laws.Append
set_option maxRecDepth 100000
set_option maxHeartbeats 4000000
set_option linter.all false
namespace Go.Proofs.YtelbfbioomcmeaaGreatDoor
open Go.RowKit
def BS (n:Nat):Option Tmp->Prop
 |some t=>t<n
 |none=>True
theorem hU {n:Nat} {dst:Option Tmp} (h:BS n dst):∀t,dst=some t->t<n:=fun t e=>by subst e;exact h
theorem ER {ro:Option Nat} {ρ:Operand->Value} {o:Oper} (h:∀c,o.op≠ .defer c):o.semAt (FR ro).round ρ=execOp ρ o:=Oper.semAt_eq ro ρ o h
theorem r9 {cx:Cx} {o:Oper} {K:St->Prop} {s:St} (aB6:∀c,o.op≠ .defer c) (hd:BS cx.n o.dst)
  (h:∀a w,cH cx s a w->∃v w' d H',(execOp a.eval o).run cx.P w=.ok (.value v) w'/\D.is w' H'.others d v/\fQ w' H'/\Ev s.H w H' w'/\K ((s.dW H').put o.dst d)):WO cx o K s:=fun a w m=>by
 refine⟨kI,?_⟩
 rw[ER aB6]
 obtain⟨v,w',d,H',h1,h2,h3,h4,h5⟩:=h a w m
 rw[h1,Oper.uponIn_value]
 exact⟨_,(m.go h4 h3).put (hU hd) h2,h5⟩
theorem jC {cx:Cx} {o:Oper} {K:St->Prop} {s:St} (aB6:∀c,o.op≠ .defer c) (hd:BS cx.n o.dst)
  (h:∀a w,cH cx s a w->∃v d,(execOp a.eval o).run cx.P w=.ok (.value v) w/\D.is w s.H.others d v/\K (s.put o.dst d)):WO cx o K s:=
 r9 aB6 hd fun a w m=>by
  obtain⟨v,d,h1,h2,h3⟩:=h a w m
  exact⟨v,w,d,s.H,h1,h2,m.H,gC _ _,h3⟩
theorem MG {cx:Cx} {o:Oper} {K:St->Prop} {s:St} (aB6:∀c,o.op≠ .defer c) (hd:BS cx.n o.dst)
  (h:∀a w,cH cx s a w->∃w' H',(execOp a.eval o).run cx.P w=.ok .skip w'/\fQ w' H'/\Ev s.H w H' w'/\K ((s.dW H').put o.dst (.val undef))):WO cx o K s:=fun a w m=>by
 refine⟨kI,?_⟩
 rw[ER aB6]
 obtain⟨w',H',h1,h3,h4,h5⟩:=h a w m
 rw[h1,Oper.uponIn_skip]
 exact⟨_,(m.go h4 h3).put (hU hd) (by simp only[D.is]),h5⟩
theorem dF {w:World} {S:Nat->Prop} {u v:Value} (h:D.is w S (.val u) v):v=u:=by simpa only[D.is] using h
theorem pA {w:World} {S:Nat->Prop} (u:Value):D.is w S (.val u) u:=by simp only[D.is]
def AF (op:BinOp) (k:IntKind) (a b:Int) (K:D->Prop):Prop:=
 match op with
 | .add=>K (.val (.int k (k.wrap (a+b))))
 | .sub=>K (.val (.int k (k.wrap (a - b))))
 | .mul=>K (.val (.int k (k.wrap (a * b))))
 | .quo=>b≠0/\K (.val (.int k (k.wrap (a.tdiv b))))
 | .rem=>b≠0/\K (.val (.int k (a.tmod b)))
 | .and=>K (.val (.int k (bits .and k a b)))
 | .or=>K (.val (.int k (bits .or k a b)))
 | .xor=>K (.val (.int k (bits .xor k a b)))
 | .andNot=>K (.val (.int k (bits .andNot k a b)))
 | .eql=>K (.val (.bool (decide (a=b))))
 | .neq=>K (.val (.bool (decide (a≠b))))
 | .lss=>K (.val (.bool (decide (a<b))))
 | .leq=>K (.val (.bool (decide (a<=b))))
 | .gtr=>K (.val (.bool (decide (b<a))))
 | .geq=>K (.val (.bool (decide (b<=a))))
 |_=>False
def AG (op:BinOp) (a b:ByteArray) (K:D->Prop):Prop:=
 match op with
 | .add=>a.size+b.size<=9223372036854775807/\K (.val (.string (a++b)))
 | .eql=>K (.val (.bool (decide (a.toList=b.toList))))
 | .neq=>K (.val (.bool (decide (a.toList≠b.toList))))
 | .lss=>K (.val (.bool (Op.bytesLess a.toList b.toList)))
 | .leq=>K (.val (.bool (Op.bytesLess a.toList b.toList||decide (a.toList=b.toList))))
 | .gtr=>K (.val (.bool (!(Op.bytesLess a.toList b.toList||decide (a.toList=b.toList)))))
 | .geq=>K (.val (.bool (!Op.bytesLess a.toList b.toList)))
 |_=>False
def D.nilPtr:D->Option Bool
 | .val (.pointer none)=>some true
 | .val (.pointer (some _))| .ep _ _ _ _ _| .rp _=>some false
 |_=>none
def D.mK:D->Option Bool
 | .val (.slice none _ _)=>some true
 | .val (.slice (some _) _ _)=>some false
 | .os _ _ _ _ n=>if n=0 then none else some false
 | .seq _ els=>if els.length=0 then none else some false
 |_=>none
def D.mR:D->Option Bool
 | .val (.map none)=>some true
 | .val (.map (some _))=>some false
 |_=>none
def m8 (op:BinOp) (b:Bool) (K:D->Prop):Prop:=
 match op with
 | .eql=>K (.val (.bool b))
 | .neq=>K (.val (.bool (!b)))
 |_=>False
def rA (P:Program) (op:BinOp) (t:TypeId) (x:D) (K:D->Prop):Prop:=
 match aS P t,x.nilPtr with
 |some ⟨.ptr _,_,_,_⟩,some b=>m8 op b K
 |_,_=>False
def oZ (P:Program) (op:BinOp) (t:TypeId) (x:D) (K:D->Prop):Prop:=
 match aS P t,x.mK with
 |some ⟨.slice _,_,_,_⟩,some b=>m8 op b K
 |_,_=>False
def qZ (P:Program) (op:BinOp) (t:TypeId) (x:D) (K:D->Prop):Prop:=
 match aS P t,x.mR with
 |some ⟨.map _ _,_,_,_⟩,some b=>m8 op b K
 |_,_=>False
def jH (P:Program) (t:TypeId):Prop:=match aS P t with|some ⟨.bool,_,_,_⟩=>True|_=>False
def TP:List D->List D->Option (List Bool×Bool)
 |[],[]=>some ([],true)
 | .val (.int .i64 a)::x,.val (.int .i64 b)::y=>(match TP x y with|some (k,r)=>some (false::k,decide (a=b)&&r)|none=>none)
 | .val (.string a)::x,.val (.string b)::y=>(match TP x y with|some (k,r)=>some (true::k,decide (a.toList=b.toList)&&r)|none=>none)
 |_,_=>none
def aWh (P:Program) (t:TypeId) (ks:List Bool):Prop:=
 ∀(ds es:List D) (r:Bool) (vs us:List Value) (w:World) (S:Nat->Prop) (op:BinOp) (p q:Operand),TP ds es=some (ks,r)->aU w S ds vs->aU w S es us->
  (eqGuard op t p q (.agg vs.toArray) (.agg us.toArray)).run P w=.ok () w/\(Op.equal t (.agg vs.toArray) (.agg us.toArray)).run P w=.ok r w
def wU (P:Program) (op:BinOp) (t:TypeId) (x y:D) (K:D->Prop):Prop:=
 match x,y with
 | .val (.int k a),.val (.int k' b)=>
  (match op with
  | .shl=>0<=b/\K (.val (.int k (k.wrap (a * 2 ^ min b.toNat k.bits))))
  | .shr=>0<=b/\K (.val (.int k (a.fdiv (2 ^ min b.toNat k.bits))))
  |op=>k=k'/\AF op k a b K)
 | .val (.string a),.val (.string b)=>AG op a b K
 | .val (.bool a),.val (.bool b)=>jH P t/\(match op with
  | .eql=>K (.val (.bool (decide (a=b))))
  | .neq=>K (.val (.bool (decide (a≠b))))
  |_=>False)
 | .agg ds,.agg es=>(match TP ds es with|some (ks,r)=>aWh P t ks/\m8 op r K|none=>False)
 |x,.val (.pointer none)=>rA P op t x K
 |x,.val (.slice none _ _)=>oZ P op t x K
 |x,.val (.map none)=>qZ P op t x K
 |_,_=>False
theorem aC1 {P:Program} {w:World} {op:BinOp} {t:TypeId} {k:IntKind} {a b:Int} {K:D->Prop} (h:AF op k a b K):∃v,(binOp op t (.int k a) (.int k b)).run P w=.ok v w/\K (.val v):=by
 cases op <;> simp only[AF] at h <;> first
  |exact⟨_,rfl,h⟩
  |(refine⟨_,?_,h.2⟩;have h0:=h.1;simp [binOp,Op.intDiv,h0];done)
  |(refine⟨_,?_,h⟩;simp [binOp,Op.intCmp,bne];done)
  |(refine⟨_,?_,h⟩;simp [binOp,Op.intCmp,bne];rfl)
  |exact h.elim
theorem aC2 {P : Program} {w : World} {op : BinOp} {t : TypeId} {a b : ByteArray} {K : D -> Prop} (h : AG op a b K) : ∃ v, (binOp op t (.string a) (.string b)).run P w = .ok v w /\ K (.val v) := by
  have e : (a.toList == b.toList) = decide (a.toList = b.toList) := by
    by_cases h : a.toList = b.toList <;> simp [h]
  have e2 : (!decide (a.toList = b.toList)) = decide (a.toList ≠ b.toList) := by
    by_cases h : a.toList = b.toList <;> simp [h]
  cases op <;> simp only [AG] at h <;> first
    | (refine ⟨_, ?_, h⟩; simp only [binOp, Op.stringOp, e]; rfl)
    | (refine ⟨_, ?_, h⟩; simp only [binOp, Op.stringOp, e, e2]; rfl)
    | (refine ⟨_, ?_, h.2⟩
       have h0 : ¬ ((a.size + b.size : Nat) : Int) > IntKind.i64.max := by
        have h1 := h.1
        have : IntKind.i64.max = 9223372036854775807 := by decide
        omega
       simp only [binOp, Op.stringOp, h0, fE]; rfl)
    | exact h.elim
theorem RN {w:World} {S:Nat->Prop} {d:D} {v:Value} {b:Bool} (h:D.is w S d v) (hb:d.nilPtr=some b):∃p:Option Addr,v=.pointer p/\p.isNone=b:=by
 cases d with
 |val u=>
  have e:=dF h
  subst e
  cases v with
  |pointer p=>refine⟨p,rfl,?_⟩;cases p <;> simp [D.nilPtr] at hb <;> simp [hb]
  |_=>simp [D.nilPtr] at hb
 |ep=>simp only[D.is] at h;exact⟨_,h,by simpa [D.nilPtr] using hb⟩
 |rp cs=>simp only[D.is] at h;obtain⟨b,o,rfl,_⟩:=h;exact⟨_,rfl,by simpa [D.nilPtr] using hb⟩
 |_=>simp [D.nilPtr] at hb
theorem RM {w:World} {S:Nat->Prop} {d:D} {v:Value} {b:Bool} (h:D.is w S d v) (hb:d.mR=some b):∃p:Option Nat,v=.map p/\p.isNone=b:=by
 cases d with
 |val u=>
  have e:=dF h
  subst e
  cases v with
  |map p=>refine⟨p,rfl,?_⟩;cases p <;> simp [D.mR] at hb <;> simp [hb]
  |_=>simp [D.mR] at hb
 |_=>simp [D.mR] at hb
theorem UM {w:World} {S:Nat->Prop} {d:D} {v:Value} {b:Bool} (h:D.is w S d v) (hb:d.mK=some b):∃p n c,v=.slice p n c/\p.isNone=b:=by
 cases d with
 |val u=>
  have e:=dF h
  subst e
  cases v with
  |slice p n c=>refine⟨p,n,c,rfl,?_⟩;cases p <;> simp [D.mK] at hb <;> simp [hb]
  |_=>simp [D.mK] at hb
 |os b' o sz k n=>
  simp only[D.is] at h
  obtain⟨A,c,rfl,h1,h2⟩:=h
  simp only[D.mK] at hb
  split at hb
  ·cases hb
  ·rcases h2 with h2|⟨rfl,_⟩
   ·omega
   ·exact⟨_,_,_,rfl,by simpa using hb⟩
 |seq sz els=>
  simp only[D.is] at h
  obtain⟨A,c,rfl,h1,h2⟩:=h
  simp only[D.mK] at hb
  split at hb
  ·cases hb
  ·rename_i fP
   rcases h2 with h2|⟨_,_,rfl,_⟩
   ·subst h2;simp at fP
   ·exact⟨_,_,_,rfl,by simpa using hb⟩
 |_=>simp [D.mK] at hb
theorem aBH {P:Program} {w:World} (d:Nat) {t e:TypeId} (h:P.underlying t=some (.pointer e)) (p:Option Addr):(Op.equalIn (d+1) t (.pointer p) (.pointer none)).run P w=.ok p.isNone w:=by
 cases p <;> simp [Op.equalIn,bI h]
theorem IF {P:Program} {w:World} (d:Nat) {t e:TypeId} (h:P.underlying t=some (.slice e)) (p:Option Addr) (n c n' c':Nat):(Op.equalIn (d+1) t (.slice p n c) (.slice none n' c')).run P w=.ok p.isNone w:=by
 cases p <;> simp [Op.equalIn,bI h]
theorem aBG {P:Program} {w:World} (d:Nat) {t k e:TypeId} (h:P.underlying t=some (.map k e)) (p:Option Nat):(Op.equalIn (d+1) t (.map p) (.map none)).run P w=.ok p.isNone w:=by
 cases p <;> simp [Op.equalIn,bI h]
theorem YX {P:Program} {w:World} (d:Nat) {t:TypeId} (h:P.underlying t=some .bool) (a b:Bool):(Op.equalIn (d+1) t (.bool a) (.bool b)).run P w=.ok (a==b) w:=by
 simp [Op.equalIn,bI h]
theorem zC {P:Program} {w:World} {op:BinOp} {t:TypeId} {v y:Value} {b:Bool} {K:D->Prop} (h:m8 op b K) (hr:(Op.equal t v y).run P w=.ok b w) (he:binOp .eql t v y=(do pure (.bool (<-Op.equal t v y)))) (hn:binOp .neq t v y=(do pure (.bool (!(<-Op.equal t v y))))):
  ∃u,(binOp op t v y).run P w=.ok u w/\K (.val u):=by
 cases op <;> simp only[m8] at h <;> first
  |exact⟨_,by rw[he];simp [hr,Result.andThen],h⟩
  |exact⟨_,by rw[hn];simp [hr,Result.andThen],h⟩
  |exact h.elim
theorem Z9 {P:Program} {w:World} {S:Nat->Prop} {op:BinOp} {t:TypeId} {x:D} {v:Value} {K:D->Prop} (h:rA P op t x K) (hx:D.is w S x v):∃u,(binOp op t v (.pointer none)).run P w=.ok u w/\K (.val u):=by
 unfold rA at h
 split at h
 ·rename_i hT hb
  obtain⟨d,i,h1,h2,h3⟩:=cU hT
  obtain⟨p,rfl,hp⟩:=RN hx hb
  injection h3 with h3
  cases d <;> simp [iU] at h3
  subst h3
  exact zC h (by rw[<-hp];exact aBH 9999 h1 p) rfl rfl
 ·exact h.elim
theorem aAA {P:Program} {w:World} {S:Nat->Prop} {op:BinOp} {t:TypeId} {x:D} {v:Value} {n c:Nat} {K:D->Prop} (h:oZ P op t x K) (hx:D.is w S x v):∃u,(binOp op t v (.slice none n c)).run P w=.ok u w/\K (.val u):=by
 unfold oZ at h
 split at h
 ·rename_i hT hb
  obtain⟨d,i,h1,h2,h3⟩:=cU hT
  obtain⟨p,n',c',rfl,hp⟩:=UM hx hb
  injection h3 with h3
  cases d <;> simp [iU] at h3
  subst h3
  exact zC h (by rw[<-hp];exact IF 9999 h1 p n' c' n c) rfl rfl
 ·exact h.elim
theorem Z8 {P:Program} {w:World} {S:Nat->Prop} {op:BinOp} {t:TypeId} {x:D} {v:Value} {K:D->Prop} (h:qZ P op t x K) (hx:D.is w S x v):∃u,(binOp op t v (.map none)).run P w=.ok u w/\K (.val u):=by
 unfold qZ at h
 split at h
 ·rename_i hT hb
  obtain⟨d,i,h1,h2,h3⟩:=cU hT
  obtain⟨p,rfl,hp⟩:=RM hx hb
  injection h3 with h3
  cases d <;> simp [iU] at h3
  obtain⟨rfl,rfl⟩:=h3
  exact zC h (by rw[<-hp];exact aBG 9999 h1 p) rfl rfl
 ·exact h.elim
theorem nL {P:Program} {w:World} {op:BinOp} {t:TypeId} {x y:Operand} {a b:Value} (h:(∀c,a≠ .agg c)/\a≠ .nilIface\/(∀c,b≠ .agg c)/\b≠ .nilIface):(eqGuard op t x y a b).run P w=.ok () w:=by
 rcases h with⟨h1,h2⟩|⟨h1,h2⟩
 ·cases a <;> first|exact absurd rfl h2|exact absurd rfl (h1 _)|(unfold eqGuard;split <;> rfl)
 ·cases b <;> first|exact absurd rfl h2|exact absurd rfl (h1 _)|(unfold eqGuard;split <;> first|rfl|(cases a <;> rfl))
theorem aC3 {P:Program} {w:World} {S:Nat->Prop} {op:BinOp} {t:TypeId} {x y:D} {a b:Value} {p q:Operand} {K:D->Prop} (h:wU P op t x y K) (hx:D.is w S x a) (hy:D.is w S y b):
  ∃u,(do eqGuard op t p q a b;binOp op t a b).run P w=.ok u w/\K (.val u):=by
 unfold wU at h
 split at h
 ·rename_i k a' k' b'
  have e1:=dF hx
  have e2:=dF hy
  subst e1 e2
  have hg:(eqGuard op t p q (.int k a') (.int k' b')).run P w=.ok () w:=nL (.inl (by simp))
  simp only[Sem.run_bind,hg,Result.andThen]
  split at h
  ·have h0:¬b'<0:=by omega
   refine⟨_,?_,h.2⟩
   simp [binOp,Op.shift,h0]
  ·have h0:¬b'<0:=by omega
   refine⟨_,?_,h.2⟩
   simp [binOp,Op.shift,h0]
  ·obtain⟨rfl,h⟩:=h
   exact aC1 h
 ·rename_i a' b'
  have e1:=dF hx
  have e2:=dF hy
  subst e1 e2
  have hg:(eqGuard op t p q (.string a') (.string b')).run P w=.ok () w:=nL (.inl (by simp))
  simp only[Sem.run_bind,hg,Result.andThen]
  exact aC2 h
 ·rename_i a' b'
  have e1:=dF hx
  have e2:=dF hy
  subst e1 e2
  have hg:(eqGuard op t p q (.bool a') (.bool b')).run P w=.ok () w:=nL (.inl (by simp))
  simp only[Sem.run_bind,hg,Result.andThen]
  obtain⟨h0,h⟩:=h
  have hu:P.underlying t=some .bool:=by
   unfold jH at h0
   split at h0
   ·rename_i heq
    obtain⟨d,i,h1,h2,h3⟩:=cU heq
    injection h3 with h3
    cases d <;> simp [iU] at h3
    exact h1
   ·exact h0.elim
  have hr:(Op.equal t (.bool a') (.bool b')).run P w=.ok (a'==b') w:=YX 9999 hu a' b'
  have e3:(a'==b')=decide (a'=b'):=by cases a' <;> cases b' <;> rfl
  have e4:(!decide (a'=b'))=decide (a'≠b'):=by cases a' <;> cases b' <;> rfl
  split at h
  ·exact⟨.bool (a'==b'),by simp [binOp,hr,Result.andThen],by rw[e3];exact h⟩
  ·exact⟨.bool (!(a'==b')),by simp [binOp,hr,Result.andThen],by rw[e3,e4];exact h⟩
  ·exact h.elim
 ·split at h
  ·rename_i ks r hk
   simp only[D.is] at hx hy
   obtain⟨vs,rfl,hv⟩:=hx
   obtain⟨us,rfl,hu⟩:=hy
   obtain⟨h1,h2⟩:=h.1 _ _ _ _ _ w S op p q hk hv hu
   have h:=h.2
   simp only[Sem.run_bind,h1,Result.andThen]
   unfold m8 at h
   split at h
   ·exact⟨.bool r,by simp [binOp,h2,Result.andThen],h⟩
   ·exact⟨.bool (!r),by simp [binOp,h2,Result.andThen],h⟩
   ·exact h.elim
  ·exact h.elim
 ·have e2:=dF hy
  subst e2
  have hg:(eqGuard op t p q a (.pointer none)).run P w=.ok () w:=nL (.inr (by simp))
  simp only[Sem.run_bind,hg,Result.andThen]
  exact Z9 h hx
 ·rename_i x' y' n c
  have e2:=dF hy
  subst e2
  have hg:(eqGuard op t p q a (.slice none n c)).run P w=.ok () w:=nL (.inr (by simp))
  simp only[Sem.run_bind,hg,Result.andThen]
  exact aAA h hx
 ·have e2:=dF hy
  subst e2
  have hg:(eqGuard op t p q a (.map none)).run P w=.ok () w:=nL (.inr (by simp))
  simp only[Sem.run_bind,hg,Result.andThen]
  exact Z8 h hx
 ·exact h.elim
def SN (op:UnOp) (x:D) (K:D->Prop):Prop:=
 match op,x with
 | .neg,.val (.int k n)=>K (.val (.int k (k.wrap (0 - n))))
 | .xor,.val (.int k n)=>K (.val (.int k (bits .xor k (if k.signed then -1 else k.max) n)))
 | .not,.val (.bool b)=>K (.val (.bool (!b)))
 |_,_=>False
theorem aFC {P:Program} {w:World} {S:Nat->Prop} {op:UnOp} {x:D} {v:Value} {K:D->Prop} (h:SN op x K) (hx:D.is w S x v):∃u,(Op.unary op v).run P w=.ok u w/\K (.val u):=by
 unfold SN at h
 split at h
 ·have e:=dF hx;subst e;exact⟨_,rfl,h⟩
 ·have e:=dF hx;subst e;exact⟨_,rfl,h⟩
 ·have e:=dF hx;subst e;exact⟨_,rfl,h⟩
 ·exact h.elim
def kU (H:aA) (sz:Nat) (x:D) (K:List (List D)->Prop):Prop:=
 match x with
 | .seq wT els=>wT=sz/\K els
 | .os b o wT k n=>(match H b with
  |some (.row _ o' lH els)=>o'=o/\lH=wT/\wT=sz/\k+n<=els.length/\K ((els.drop k).take n)
  |_=>False)
 | .val (.slice none 0 _)=>K []
 | .ND=>K []
 |_=>False
theorem uO {H:aA} {w:World} (hH:fQ w H) {sz:Nat} {x:D} {v:Value} {K:List (List D)->Prop} (h:kU H sz x K) (hx:D.is w H.others x v):
  ∃els A c,K els/\v=.slice A els.length c/\els.length<=c/\(els=[]\/∃b o,A=some ⟨b,o,none⟩/\b<w.heap.size/\dC w H.others b sz o els):=by
 unfold kU at h
 split at h
 ·obtain⟨rfl,h⟩:=h
  simp only[D.is] at hx
  obtain⟨A,c,rfl,h1,h2⟩:=hx
  refine⟨_,A,c,h,rfl,h1,?_⟩
  rcases h2 with h2|⟨b,o,h3,_,h4,h5⟩
  ·exact .inl h2
  ·exact .inr ⟨b,o,h3,h4,h5⟩
 ·split at h
  ·rename_i hb
   obtain⟨rfl,rfl,rfl,aR,h⟩:=h
   simp only[D.is] at hx
   obtain⟨A,c,rfl,h1,h2⟩:=hx
   obtain⟨cs,fr,h3,h4,h5,h6⟩:=hH _ _ hb
   have hl:∀(l:List (List D)) (k n:Nat),k+n<=l.length->((l.drop k).take n).length=n:=fun l k n h=>by rw[dJ,kG];omega
   refine⟨_,A,c,h,by rw[hl _ _ _ aR],by rw[hl _ _ _ aR];exact h1,?_⟩
   rcases h2 with h2|⟨h2,_⟩
   ·left
    apply gP
    rw[hl _ _ _ aR];omega
   ·exact .inr ⟨_,_,h2,hH.lt hb,n3 (qE h6 _) _⟩
  ·exact h.elim
 ·have e:=dF hx
  subst e
  exact⟨[],_,_,h,rfl,tV _,.inl rfl⟩
 ·simp only[D.is] at hx
  obtain⟨A,rfl⟩:=hx
  exact⟨[],_,_,h,rfl,tV _,.inl rfl⟩
 ·exact h.elim
def bD (c:UInt8):List D:=[.val (.int .u8 (c.toNat:Int))]
def byteOf:List D->Option UInt8
 |[.val (.int .u8 n)]=>some (UInt8.ofNat n.toNat)
 |_=>none
def bytesOf:List (List D)->Option (List UInt8)
 |[]=>some []
 |e::els=>match byteOf e,bytesOf els with
  |some c,some l=>some (c::l)
  |_,_=>none
theorem X5 (c:UInt8):byteOf (bD c)=some c:=by simp [byteOf,bD]
theorem E5 (l:List UInt8):bytesOf (l.map bD)=some l:=by
 induction l with
 |nil=>rfl
 |cons c l ih=>simp [bytesOf,X5,ih]
theorem PU {e:List D} {c:UInt8} (h:byteOf e=some c):∃n,e=[.val (.int .u8 n)]/\c=UInt8.ofNat n.toNat:=by
 unfold byteOf at h
 split at h
 ·injection h with h;exact⟨_,rfl,h.symm⟩
 ·cases h
theorem B9 {w:World} {S:Nat->Prop} {b:Nat}:∀{els:List (List D)} {o:Nat} {l:List UInt8},bytesOf els=some l->dC w S b 1 o els->
  ∃ns:List Int,ns.length=els.length/\l=ns.map (fun n=>UInt8.ofNat n.toNat)/\∀i,i<ns.length->w.cell? ⟨b,o+i,none⟩=some (.int .u8 (ns.getD i 0))
 |[],_,l,h,_=>by simp [bytesOf] at h;subst h;exact⟨[],rfl,rfl,fun i hi=>by simp at hi⟩
 |e::els,o,l,h,hr=>by
  simp only[bytesOf] at h
  split at h
  ·rename_i c l' h1 h2
   injection h with h
   subst h
   simp only[dC] at hr
   obtain⟨n,rfl,rfl⟩:=PU h1
   obtain⟨ns,h3,h4,h5⟩:=B9 h2 hr.2.2
   have hc:=hr.2.1
   simp only[cK,D.is] at hc
   obtain⟨⟨u,hu,_,rfl⟩,_⟩:=hc
   refine⟨n::ns,by simp [h3],by simp [h4],fun i hi=>?_⟩
   cases i with
   |zero=>exact hu
   |succ i=>rw[show o+(i+1)=o+1+i by omega];simpa using h5 i (by simpa using hi)
  ·cases h
def GN (P:Program) (H:aA) (J3 dst:TypeId) (x:D) (K:D->Prop):Prop:=
 match aS P J3,aS P dst with
 |some A,some B=>
  (match A.d,B.d,x with
  |_,.int k,.val (.int _ n)=>K (.val (.int k (k.wrap n)))
  |_,.string,.val (.string s)=>K (.val (.string s))
  | .slice e,.string,x=>(match aS P e with
   |some ⟨.int .u8,_,_,_⟩=>kU H 1 x fun els=>match bytesOf els with
    |some l=>K (.val (.string (e8 l)))
    |none=>False
   |_=>False)
  |_,_,_=>False)
 |_,_=>False
theorem aEq {P:Program} {H:aA} {w:World} (hH:fQ w H) {J3 dst:TypeId} {x:D} {v:Value} {K:D->Prop} (h:GN P H J3 dst x K) (hx:D.is w H.others x v):∃u,(convert J3 dst v).run P w=.ok u w/\K (.val u):=by
 unfold GN at h
 split at h
 ·rename_i A B hA hB
  obtain⟨dA,iA,a1,a2,rfl⟩:=cU hA
  obtain⟨dB,iB,b1,b2,rfl⟩:=cU hB
  simp only at h
  split at h
  ·rename_i e1
   have e:=dF hx
   subst e
   cases dB <;> simp [iU] at e1
   subst e1
   refine⟨_,?_,h⟩
   simp [convert,bI a1,bI b1,Conv.intToInt]
  ·rename_i e1
   have e:=dF hx
   subst e
   cases dB <;> simp [iU] at e1
   refine⟨_,?_,h⟩
   cases dA <;> simp [convert,bI a1,bI b1]
  ·rename_i e' e1 e2 _
   cases dB <;> simp [iU] at e2
   cases dA <;> simp [iU] at e1
   subst e1
   split at h
   ·rename_i hE
    obtain⟨dE,iE,c1,c2,h3⟩:=cU hE
    injection h3 with h3
    cases dE <;> simp [iU] at h3
    subst h3
    obtain⟨els,A,c,hk,rfl,aR,xY⟩:=uO hH h hx
    cases hl:bytesOf els with
    |none=>rw[hl] at hk;exact hk.elim
    |some l=>
     rw[hl] at hk
     refine⟨_,?_,hk⟩
     rcases xY with rfl|⟨b,o,rfl,_,hr⟩
     ·simp [bytesOf] at hl
      subst hl
      rcases A with _|⟨b,o,sp⟩
      ·rw[run_convert_bytes_nil w J3 _ a1 c1 _ _ dst b1];rfl
      ·rw[run_convert_bytes_string w J3 dst _ _ _ c a1 c1 b1,mS,run_bytesToString w _ _ c [] (by simp [loadCells,loadCellsFrom])]
       rfl
     ·obtain⟨ns,h1,h2,h3⟩:=B9 hl hr
      rw[run_convert_bytes_arg w J3 _ a1 c1 b o els.length c ns (by omega) (fun i hi=>h3 i (by omega)) dst b1]
      have uX:ns.take els.length=ns:=dQ (by omega)
      try rw[uX]
      have:strOfNums ns=e8 l:=by
       rw[h2]
       simp only[strOfNums,e8]
      rw[this]
   ·exact h.elim
  ·exact h.elim
 ·exact h.elim
def qC (P:Program) (t:TypeId) (cs:List D) (pB:Nat) (K:D->Prop):Prop:=
 match aS P t with
 |some T=>if T.d.agg then K (.agg ((cs.drop pB).take T.size)) else (match cs[pB]? with
  |some d=>K d
  |none=>False)
 |none=>False
theorem L1 {P:Program} {w:World} {S:Nat->Prop} {t:TypeId} {cs:List D} {vs:List Value} {pB:Nat} {K:D->Prop} (h:qC P t cs pB K) (hx:aU w S cs vs):∃u d,(Go.part t ⟨vs⟩ pB).run P w=.ok u w/\D.is w S d u/\K d:=by
 unfold qC at h
 split at h
 ·rename_i T hT
  split at h
  ·rename_i hag
   refine⟨.agg ((⟨vs⟩:Array Value).extract pB (pB+T.size)),_,?_,?_,h⟩
   ·unfold Go.part
    simp only[Sem.run_bind,zA hT,hag,Result.andThen,fU,eU hT]
    rfl
   ·simp only[D.is]
    exact⟨((vs.drop pB).take T.size),by simp [List.extract_eq_take_drop,Nat.add_sub_cancel_left],gR _ (gQ _ hx)⟩
  ·rename_i hag
   split at h
   ·rename_i d hd
    obtain⟨v,h1,_,h2⟩:=CC hx pB d hd
    refine⟨v,d,?_,h2,h⟩
    have h3:(⟨vs⟩:Array Value)[pB]?=some v:=by simpa using h1
    unfold Go.part
    simp only[Sem.run_bind,zA hT,hag,Result.andThen,h3]
    rfl
   ·exact h.elim
 ·exact h.elim
def gY (P:Program) (t:TypeId):List (Nat×TypeId):=
 match aS P t with
 |some ⟨.struct fs,_,_,_⟩=>fs
 |_=>[]
theorem AU {P:Program} {t:TypeId} {f pB:Nat} {ft:TypeId} (h:(gY P t)[f]?=some (pB,ft)):∃fs fld,P.underlying t=some (.struct fs)/\fs[f]?=some fld/\fld.offset=pB/\fld.type=ft:=by
 unfold gY at h
 split at h
 ·rename_i hT
  obtain⟨d,i,h1,h2,h3⟩:=cU hT
  injection h3 with h3
  cases d <;> simp [iU] at h3
  rename_i aG7
  subst h3
  rw[cR] at h
  cases hf:aG7.toList[f]? with
  |none=>rw[hf] at h;simp at h
  |some fld=>
   rw[hf] at h
   simp at h
   exact⟨_,fld,h1,by simpa using hf,h.1,h.2⟩
 ·simp at h
def lR (P:Program) (t:TypeId) (x:D) (f:Nat) (K:D->Prop):Prop:=
 match x,(gY P t)[f]? with
 | .agg cs,some (pB,ft)=>qC P ft cs pB K
 |_,_=>False
theorem UW {P:Program} {w:World} {S:Nat->Prop} {t:TypeId} {x:D} {v:Value} {f:Nat} {K:D->Prop} (h:lR P t x f K) (hx:D.is w S x v):∃u d,(Instr.field t v f).run P w=.ok u w/\D.is w S d u/\K d:=by
 unfold lR at h
 split at h
 ·rename_i cs pB ft hf
  obtain⟨fs,fld,h1,h2,rfl,rfl⟩:=AU hf
  simp only[D.is] at hx
  obtain⟨vs,rfl,hx⟩:=hx
  obtain⟨u,d,h3,h4,h5⟩:=L1 h hx
  refine⟨u,d,?_,h4,h5⟩
  unfold Instr.field
  simp only[Sem.run_bind,bI h1,Result.andThen,h2,asAgg,Sem.run_pure]
  exact h3
 ·exact h.elim
def P6 (P:Program) (t:TypeId) (x:D) (f:Nat) (K:D->Prop):Prop:=
 match (gY P t)[f]? with
 |some (pB,ft)=>(match aS P ft with
  |some T=>T.size≠0/\(match x with
   | .ep b o sz i k=>K (.ep b o sz i (k+pB))
   | .rp cs=>K (.rp (cs.drop pB))
   |_=>False)
  |none=>False)
 |none=>False
theorem aEt {P:Program} {w:World} {S:Nat->Prop} {t:TypeId} {x:D} {v:Value} {f:Nat} {K:D->Prop} (h:P6 P t x f K) (hx:D.is w S x v):∃u d,(Instr.fieldAt t v f).run P w=.ok u w/\D.is w S d u/\K d:=by
 unfold P6 at h
 split at h
 ·rename_i pB ft hf
  obtain⟨fs,fld,h1,h2,rfl,rfl⟩:=AU hf
  split at h
  ·rename_i T hT
   obtain⟨lE,h⟩:=h
   have key:∀a:Addr,(Instr.fieldAt t (.pointer (some a)) f).run P w=.ok (.pointer (some (a.add fld.offset))) w:=fun a=>by
    unfold Instr.fieldAt
    simp only[Sem.run_bind,bI h1,Result.andThen,h2,Instr.sureAddr,Sem.run_pure,fieldPlace,eU hT]
    rw[aD lE]
    rfl
   split at h
   ·simp only[D.is] at hx
    subst hx
    refine⟨_,_,key _,?_,h⟩
    simp only[D.is]
    rw[Addr.add_lit,zY]
   ·simp only[D.is] at hx
    obtain⟨b,o,rfl,h3,h4,h5⟩:=hx
    refine⟨_,_,key _,?_,h⟩
    simp only[D.is]
    exact⟨b,o+fld.offset,by rw[Addr.add_lit],h3,h4,j8 h5 _⟩
   ·exact h.elim
  ·exact h.elim
 ·exact h.elim
def Q9 (P:Program) (H:aA) (t:TypeId) (x ix:D) (K:D->Prop):Prop:=
 match ix,aS P t with
 | .val (.int _ i),some T=>(match T.d with
  | .slice e=>(match aS P e with
   |some E=>(match x with
    | .seq sz els=>sz=E.size/\0<=i/\(match els[i.toNat]? with
     |some el=>K (.rp el)
     |none=>False)
    | .os b o sz k n=>sz=E.size/\0<=i/\i<(n:Int)/\K (.ep b o sz (k+i.toNat) 0)
    |_=>False)
   |none=>False)
  | .array n e=>(match aS P e with
   |some E=>0<=i/\i<(n:Int)/\(match x with
    | .ep b o sz j k=>K (.ep b o sz j (k+i.toNat * E.size))
    | .rp cs=>K (.rp (cs.drop (i.toNat * E.size)))
    |_=>False)
   |none=>False)
  |_=>False)
 |_,_=>False
theorem aEu {P:Program} {H:aA} {w:World} {t:TypeId} {x ix:D} {v u:Value} {K:D->Prop} (h:Q9 P H t x ix K) (hx:D.is w H.others x v) (hi:D.is w H.others ix u):∃r d,(Instr.indexAt t v u).run P w=.ok r w/\D.is w H.others d r/\K d:=by
 unfold Q9 at h
 split at h
 ·rename_i k i T hT
  have e:=dF hi
  subst e
  obtain⟨d,inf,h1,h2,rfl⟩:=cU hT
  cases d <;> simp only[iU] at h <;> try exact h.elim
  ·rename_i e
   split at h
   ·rename_i E hE
    have key:∀(a:Addr) (n c:Nat),0<=i->i<(n:Int)->(Instr.indexAt t (.slice (some a) n c) (.int k i)).run P w=.ok (.pointer (some (a.add (i.toNat * E.size)))) w:=fun a n c h0 Y6=>by
     unfold Instr.indexAt
     simp only[Sem.run_bind,asIntOf,Sem.run_pure,Result.andThen,bI h1]
     rw[aH ⟨h0,Y6⟩]
     simp only[Sem.run_bind,eU hE,Result.andThen,Sem.run_pure]
    split at h
    ·rename_i sz els
     obtain⟨rfl,h0,h⟩:=h
     split at h
     ·rename_i el FE
      simp only[D.is] at hx
      obtain⟨A,c,rfl,h3,h4⟩:=hx
      have gL:i.toNat<els.length:=(kD.1 FE).1
      rcases h4 with h4|⟨b,o,rfl,h5,h6,h7⟩
      ·subst h4;simp at gL
      ·refine⟨_,_,key _ _ _ h0 (by omega),?_,h⟩
       simp only[D.is]
       exact⟨b,o+i.toNat * E.size,by rw[Addr.add_lit],h5,h6,(eA h7 _ _ FE).2⟩
     ·exact h.elim
    ·rename_i b o sz k' n
     obtain⟨rfl,h0,h3,h⟩:=h
     simp only[D.is] at hx
     obtain⟨A,c,rfl,h4,h5⟩:=hx
     rcases h5 with h5|⟨rfl,_⟩
     ·omega
     ·refine⟨_,_,key _ _ _ h0 h3,?_,h⟩
      simp only[D.is]
      rw[Addr.add_lit,eK]
      simp only[z8,zY]
    ·exact h.elim
   ·exact h.elim
  ·rename_i n e
   split at h
   ·rename_i E hE
    obtain⟨h0,h3,h⟩:=h
    have key:∀(a:Addr),(Instr.indexAt t (.pointer (some a)) (.int k i)).run P w=.ok (.pointer (some (a.add (i.toNat * E.size)))) w:=fun a=>by
     unfold Instr.indexAt
     simp only[Sem.run_bind,asIntOf,Sem.run_pure,Result.andThen,bI h1,Instr.sureAddr]
     rw[aH ⟨h0,h3⟩]
     simp only[Sem.run_bind,eU hE,Result.andThen,Sem.run_pure]
    split at h
    ·simp only[D.is] at hx
     subst hx
     refine⟨_,_,key _,?_,h⟩
     simp only[D.is]
     rw[Addr.add_lit,zY]
    ·simp only[D.is] at hx
     obtain⟨b,o,rfl,h4,h5,h6⟩:=hx
     refine⟨_,_,key _,?_,h⟩
     simp only[D.is]
     exact⟨b,_,by rw[Addr.add_lit],h4,h5,j8 h6 _⟩
    ·exact h.elim
   ·exact h.elim
 ·exact h.elim
def RA (P:Program) (t:TypeId) (x ix:D) (K:D->Prop):Prop:=
 match ix,aS P t with
 | .val (.int _ i),some T=>(match T.d,x with
  | .array n e,.agg cs=>(match aS P e with
   |some E=>0<=i/\i<(n:Int)/\qC P e cs (i.toNat * E.size) K
   |none=>False)
  | .string,.val (.string s)=>0<=i/\(match s.data.toList[i.toNat]? with
   |some c=>K (.val (.int .u8 (c.toNat:Int)))
   |none=>False)
  |_,_=>False)
 |_,_=>False
theorem aEv {P:Program} {w:World} {S:Nat->Prop} {t:TypeId} {x ix:D} {v u:Value} {K:D->Prop} (h:RA P t x ix K) (hx:D.is w S x v) (hi:D.is w S ix u):∃r d,(Instr.index t v u).run P w=.ok r w/\D.is w S d r/\K d:=by
 unfold RA at h
 split at h
 ·rename_i k i T hT
  have e:=dF hi
  subst e
  obtain⟨d,inf,h1,h2,rfl⟩:=cU hT
  simp only at h
  split at h
  ·rename_i n e cs e1
   cases d <;> simp [iU] at e1
   obtain⟨rfl,rfl⟩:=e1
   split at h
   ·rename_i E hE
    obtain⟨h0,h3,h⟩:=h
    simp only[D.is] at hx
    obtain⟨vs,rfl,hx⟩:=hx
    obtain⟨r,d,h4,h5,h6⟩:=L1 h hx
    refine⟨r,d,?_,h5,h6⟩
    unfold Instr.index
    simp only[Sem.run_bind,asIntOf,Sem.run_pure,Result.andThen,bI h1]
    rw[aH ⟨h0,h3⟩]
    simp only[Sem.run_bind,eU hE,Result.andThen]
    exact h4
   ·exact h.elim
  ·rename_i s e1
   cases d <;> simp [iU] at e1
   obtain⟨h0,h⟩:=h
   have e:=dF hx
   subst e
   split at h
   ·rename_i c hc
    refine⟨_,_,?_,pA _,h⟩
    have h3:s[i.toNat]?=some c:=by
     have gL:=(kD.1 hc).1
     have aX4:i.toNat<s.size:=by rw[jS] at gL;exact gL
     have:=(kD.1 hc).2
     rw[getElem?_pos s i.toNat aX4,<-this]
     rfl
    unfold Instr.index
    simp only[Sem.run_bind,asIntOf,Sem.run_pure,Result.andThen,bI h1]
    rw[aH h0,h3]
    rfl
   ·exact h.elim
  ·exact h.elim
 ·exact h.elim
def RE (ag:Bool) (sz:Nat) (cs:List D) (K:D->Prop):Prop:=
 if ag then (if cs.length=sz then K (.agg cs) else sz<=cs.length/\K (.agg (cs.take sz)))
 else match cs with
  |d::_=>K d
  |[]=>False
theorem W8 {P:Program} {w:World} {S:Nat->Prop} {t:TypeId} {T:Ti} (hT:aS P t=some T) {b o:Nat} {cs:List D} {K:D->Prop} (h:RE T.d.agg T.size cs K) (hc:cK w S b o cs):
  ∃v d,(loadVar t ⟨b,o,none⟩).run P w=.ok v w/\D.is w S d v/\K d:=by
 have agg:∀(ds:List D),ds.length=T.size->cK w S b o ds->T.d.agg=true->K (.agg ds)->∃v d,(loadVar t ⟨b,o,none⟩).run P w=.ok v w/\D.is w S d v/\K d:=by
  intro ds hl uS hag hk
  obtain⟨vs,h1,h2⟩:=dR uS
  have hvl:=dU h1
  refine⟨.agg ⟨vs⟩,.agg ds,?_,?_,hk⟩
  ·unfold loadVar
   simp only[Sem.run_bind,zA hT,hag,Result.andThen,fU,eU hT]
   have:=run_loadCells_list (P:=P) w ⟨b,o,none⟩ vs (fun j v hj=>by rw[Addr.add_lit];exact h2 j v hj)
   rw[hvl,hl] at this
   rw[this]
   rfl
  ·simp only[D.is];exact⟨vs,rfl,h1⟩
 unfold RE at h
 split at h
 ·rename_i hag
  split at h
  ·rename_i hl
   exact agg cs hl hc hag h
  ·exact agg _ (by rw[dJ];omega) (vG hc _) hag h.2
 ·rename_i hag
  split at h
  ·rename_i d ds
   simp only[cK] at hc
   obtain⟨⟨u,h1,_,h2⟩,_⟩:=hc
   refine⟨u,d,?_,h2,h⟩
   unfold loadVar
   simp only[Sem.run_bind,zA hT,hag,Result.andThen]
   simp [h1]
  ·exact h.elim
def BQ (P:Program) (H:aA) (t:TypeId) (x:D) (K:D->Prop):Prop:=
 match aS P t with
 |some T=>(match x with
  | .rp cs=>RE T.d.agg T.size cs K
  | .ep b o sz i k=>(match H b with
   |some (.row _ o' wT els)=>o'=o/\wT=sz/\(match els[i]? with
    |some el=>RE T.d.agg T.size (el.drop k) K
    |none=>False)
   |_=>False)
  |_=>False)
 |none=>False
theorem W9 {P:Program} {H:aA} {w:World} (hH:fQ w H) {t:TypeId} {x:D} {v:Value} {K:D->Prop} (h:BQ P H t x K) (hx:D.is w H.others x v):∃u d,(Instr.loadAt t v).run P w=.ok u w/\D.is w H.others d u/\K d:=by
 unfold BQ at h
 split at h
 ·rename_i T hT
  split at h
  ·simp only[D.is] at hx
   obtain⟨b,o,rfl,_,_,hc⟩:=hx
   obtain⟨u,d,h1,h2,h3⟩:=W8 hT h hc
   refine⟨u,d,?_,h2,h3⟩
   simp only[Instr.loadAt,Instr.sureAddr,Sem.run_bind,Sem.run_pure,Result.andThen]
   exact h1
  ·rename_i b o sz i k
   split at h
   ·rename_i hb
    obtain⟨rfl,rfl,h⟩:=h
    split at h
    ·rename_i el FE
     simp only[D.is] at hx
     subst hx
     obtain⟨cs,fr,h1,h2,h3,h4⟩:=hH _ _ hb
     have hc:=j8 (eA h4 i el FE).2 k
     obtain⟨u,d,h5,h6,h7⟩:=W8 hT h hc
     refine⟨u,d,?_,h6,h7⟩
     simp only[Instr.loadAt,Instr.sureAddr,Sem.run_bind,Sem.run_pure,Result.andThen]
     exact h5
    ·exact h.elim
   ·exact h.elim
  ·exact h.elim
 ·exact h.elim
theorem mV {H:aA} {w w':World} {b:Nat} {x:gB} (hb:H b≠none) (e1:w'.os=w.os) (e2:w'.tape=w.tape) (e3:w'.output=w.output) (e4:w'.heap.size=w.heap.size) (ho:∀c,c≠b->w'.heap[c]?=w.heap[c]?)
  (hs:∀cs t fr,w.heap[b]?=some (Obj.cells cs t fr)->∃sZ TR,w'.heap[b]?=some (Obj.cells sZ t TR)/\sZ.size=cs.size):Ev H w (H.bH b x) w' where
 os:=e1
 tape:=e2
 output:=e3
 size:=Nat.le_of_eq e4.symm
 jY:=fun c hc hn=>by
  have fP:c≠b:=fun e=>hb (e▸hn)
  exact⟨ho c fP,by rw[aP fP];exact hn⟩
 shape:=fun c cs t fr hc=>by
  by_cases e:c=b
  ·subst e;exact hs cs t fr hc
  ·exact⟨cs,fr,(ho c e).trans hc,rfl⟩
theorem kS {H:aA} {w w':World} {b:Nat} {x:gB} (hH:fQ w H) (he:Ev H w (H.bH b x) w') (ho:∀c,c≠b->w'.heap[c]?=w.heap[c]?) (hx:rC w' (H.bH b x) b x):fQ w' (H.bH b x):=fun c y hc=>by
 by_cases e:c=b
 ·subst e
  rw[aQ] at hc
  injection hc with hc
  subst hc
  exact hx
 ·rw[aP e] at hc
  exact he.rC (ho c e) (hH c y hc)
def qD (el:List D) (k:Nat) (c:List D):List D:=el.take k++c++el.drop (k+c.length)
theorem OK {el c:List D} {k:Nat} (h:k+c.length<=el.length):(qD el k c).length=el.length:=by simp [qD];omega
def PH (P:Program) (H:aA) (t:TypeId) (x d:D) (K:aA->Prop):Prop:=
 match aS P t,x,d.cells with
 |some T,.ep b o sz i k,some c=>c.length=T.size/\(match H b with
  |some (.row ty o' wT els)=>o'=o/\wT=sz/\(match els[i]? with
   |some el=>k+c.length<=el.length/\K (H.bH b (.row ty o sz (els.set i (qD el k c))))
   |none=>False)
  |_=>False)
 |_,_,_=>False
theorem rJ {i j sz k:Nat} (h:i<j) (hk:k<sz):i * sz+k<j * sz:=by
 have:(i+1) * sz<=j * sz:=jP _ h
 rw[eK] at this
 omega
theorem aFB {P:Program} {H:aA} {w:World} (hH:fQ w H) {t:TypeId} {x d:D} {v u:Value} {K:aA->Prop} (h:PH P H t x d K) (hx:D.is w H.others x v) (hd:D.is w H.others d u):
  ∃w' H',(Instr.storeAt t v u).run P w=.ok () w'/\fQ w' H'/\Ev H w H' w'/\K H':=by
 unfold PH at h
 split at h
 ·rename_i T b o sz i k c hT hc
  obtain⟨lE,h⟩:=h
  split at h
  ·rename_i ty o' wT els hb
   obtain⟨rfl,rfl,h⟩:=h
   split at h
   ·rename_i el FE
    obtain⟨aR,h⟩:=h
    simp only[D.is] at hx
    subst hx
    have hu:=D.CD hd hc
    have GA:=dU hu
    have hus:u.cells.toList.length=u.cells.size:=jS
    obtain⟨cs,fr,h1,h2,h3,h4⟩:=hH _ _ hb
    obtain⟨aGq,aXN⟩:=eA h4 i el FE
    have aIv:i<els.length:=(kD.1 FE).1
    have AO:o'+i * wT+k+0+u.cells.toList.length<=cs.size:=by
     have:(i+1) * wT<=els.length * wT:=jP _ aIv
     rw[eK] at this
     omega
    obtain⟨w',uW,e1,e2,e3,e4,ho,sZ,g1,g2,g3,g4⟩:=gK (P:=P) b ty fr u.cells.toList (o'+i * wT+k) 0 w cs h1 h2 AO (oC hu)
    have iP:Ev H w (H.bH b (.row ty o' wT (els.set i (qD el k c)))) w':=mV (by rw[hb];simp) e1 e2 e3 e4 ho (fun cs0 t0 fr0 h0=>by
     rw[h1] at h0
     injection h0 with h0
     injection h0 with a1 a2 a3
     subst a1 a2 a3
     exact⟨sZ,_,g1,g2⟩)
    refine⟨w',_,?_,kS hH iP ho ⟨sZ,fr,g1,by rw[g2];exact h2,by rw[DO,g2];exact h3,?_⟩,iP,h⟩
    ·simp only[Instr.storeAt,Instr.sureAddr,Sem.run_bind,Sem.run_pure,Result.andThen,storeVar,eU hT]
     have:¬u.cells.size≠T.size:=by
      have:u.cells.size=u.cells.toList.length:=by simp
      omega
     rw[aD this]
     exact uW
    ·have PW:∀j,w'.cell? ⟨b,j,none⟩=sZ[j]?:=fun j=>cell_of_row w' b j sZ ty fr g1
     have aAc:∀j,w.cell? ⟨b,j,none⟩=cs[j]?:=fun j=>cell_of_row w b j cs ty fr h1
     have fP:∀j':Nat,j'<o'+i * wT+k\/o'+i * wT+k+c.length<=j'->w'.cell? ⟨b,j',none⟩=w.cell? ⟨b,j',none⟩:=fun j' hj=>by
      rw[PW,aAc]
      exact g4 j' (by omega)
     refine eY fun i' el' hi'=>?_
     rw[HH] at hi'
     by_cases e:i=i'
     ·subst e
      rw[aH rfl] at hi'
      rw[aH aIv] at hi'
      injection hi' with hi'
      subst hi'
      refine⟨by rw[OK aR];exact aGq,?_⟩
      obtain⟨vs,h5,h6⟩:=dR aXN
      have hvl:=dU h5
      have h5':=bV iP.kept _ h5
      have hu':=bV iP.kept _ hu
      refine dV (vs:=vs.take k++u.cells.toList++vs.drop (k+c.length)) (dS (dS (gR k h5') hu') (gQ _ h5')) fun j v hj=>?_
      rcases jW j k with hjk|hjk
      ·rw[fP _ (by omega)]
       apply h6
       rw[dN,nS (by simp;omega),nU,aH hjk] at hj
       exact hj
      ·rcases jW j (k+c.length) with hjc|hjc
       ·rw[PW,show o'+i * wT+j=o'+i * wT+k+0+(j - k) by omega]
        apply g3
        rw[dN,qX (by simp;omega),nS (by simp;omega)] at hj
        rw[<-hj]
        congr 1
        simp;omega
       ·rw[fP _ (by omega)]
        apply h6
        rw[qX (by simp;omega),yL] at hj
        rw[<-hj]
        congr 1
        simp;omega
     ·rw[aD e] at hi'
      obtain⟨h5,h6⟩:=eA h4 i' el' hi'
      refine⟨h5,?_⟩
      obtain⟨vs,h7,h8⟩:=dR h6
      have hvl:=dU h7
      refine dV (bV iP.kept _ h7) fun j v hj=>?_
      have kR:j<wT:=by
       have:=(kD.1 hj).1
       omega
      rw[fP _ ?_]
      ·exact h8 j v hj
      ·rcases jW i' i with gL|EC
       ·have:=rJ gL kR
        omega
       ·have gL:i<i':=by omega
        have:(i+1) * wT<=i' * wT:=jP _ gL
        rw[eK] at this
        omega
   ·exact h.elim
  ·exact h.elim
 ·exact h.elim
def TJ (H:aA) (CI:TypeId) (d:D) (K:D->aA->Prop):Prop:=
 match d.cells with
 |some cs=>∀b,H b=none->K (.ep b 0 cs.length 0 0) (H.bH b (.row CI 0 cs.length [cs]))
 |none=>False
theorem aEp {P:Program} {H:aA} {w:World} (hH:fQ w H) {CI:TypeId} {d:D} {v:Value} {K:D->aA->Prop} (h:TJ H CI d K) (hd:D.is w H.others d v):
  ∃r d' w' H',(do pure (Value.pointer (some (<-newVar CI v))):Sem Value).run P w=.ok r w'/\D.is w' H'.others d' r/\fQ w' H'/\Ev H w H' w'/\K d' H':=by
 unfold TJ at h
 split at h
 ·rename_i cs hc
  have hu:=D.CD hd hc
  have hl:=dU hu
  refine⟨.pointer (some ⟨w.heap.size,0,none⟩),_,w.alloc (Obj.cells v.cells CI),_,?_,?_,?_,iO _ _ hH,h w.heap.size (gZ hH)⟩
  ·simp only[newVar,newRow,newObj,Sem.run_bind,Sem.run_pure,Result.andThen,Sem.run]
   rfl
  ·simp only[D.is];simp
  ·have:=EP (els:=[cs]) (vs:=v.cells.toList) hH CI cs.length (by simpa using hu) (fun el FE=>by simp at FE;rw[FE]) (by simp at hl ⊢;omega)
   simpa using this
 ·exact h.elim
def TE (P:Program) (H:aA) (CI:TypeId) (K:D->aA->Prop):Prop:=
 match aS P CI with
 |some ⟨_,_,_,some zs⟩=>zs.all Value.oneCell'=true/\∀b,H b=none->K (.ep b 0 zs.length 0 0) (H.bH b (.row CI 0 zs.length [zs.map .val]))
 |_=>False
theorem qG {P:Program} {t:TypeId} {T:Ti} {zs:List Value} (hT:aS P t=some T) (hz:T.zero=some zs) (w:World):∃z,(zeroValue t).run P w=.ok z w/\z.cells.toList=zs:=by
 obtain⟨i,h1,h2,h3,h4,h5⟩:=nD hT w
 rw[h4] at hz
 cases hi:i.zero with
 |none=>rw[hi] at hz;simp at hz
 |some z=>
  rw[hi] at hz
  simp at hz
  refine⟨z,?_,hz⟩
  unfold zeroValue
  simp only[Sem.run_bind,h1,Result.andThen,hi,Sem.run_pure]
theorem aEi {P:Program} {H:aA} {w:World} (hH:fQ w H) {CI:TypeId} {K:D->aA->Prop} (h:TE P H CI K):
  ∃r d' w' H',(Instr.alloc CI true (.tuple #[])).run P w=.ok r w'/\D.is w' H'.others d' r/\fQ w' H'/\Ev H w H' w'/\K d' H':=by
 unfold TE at h
 split at h
 ·rename_i hT
  obtain⟨h1,h⟩:=h
  rename_i zs
  obtain⟨z,h2,h3⟩:=qG hT rfl w
  refine⟨.pointer (some ⟨w.heap.size,0,none⟩),_,w.alloc (Obj.cells z.cells CI),_,?_,?_,?_,iO _ _ hH,h w.heap.size (gZ hH)⟩
  ·simp only[Instr.alloc,Sem.run_bind,h2,Result.andThen,newVar,newRow,newObj,Sem.run_pure,Sem.run]
   rfl
  ·simp only[D.is];simp
  ·have hu:aU w H.others (zs.map .val) z.cells.toList:=by rw[h3];exact kP zs (fun v hv=>(eD.1 h1) v hv)
   have:=EP (els:=[zs.map .val]) (vs:=z.cells.toList) hH CI zs.length (by simpa using hu) (fun el FE=>by simp at FE;rw[FE];simp) (by rw[h3];simp)
   simpa using this
 ·exact h.elim
def AI (RY:Nat->Option (Nat×Nat)):List D->List (Nat×D)->Option (List D)
 |cs,[]=>some cs
 |cs,(i,d)::dD=>
  match RY i,d.cells with
  |some (pB,size),some c=>if c.length=size/\pB+c.length<=cs.length then AI RY (qD cs pB c) dD else none
  |_,_=>none
theorem LA (pB:Nat):∀(vs:List Value) (j:Nat) (cs:Array Value),pB+j+vs.length<=cs.size->
  ((vs.zipIdx j).foldl (fun cs (x:Value×Nat)=>cs.setIfInBounds (pB+x.2) x.1) cs).toList=cs.toList.take (pB+j)++vs++cs.toList.drop (pB+j+vs.length)
 |[],j,cs,h=>by simp
 |v::vs,j,cs,h=>by
  simp only[List.zipIdx_cons,DP]
  rw[LA pB vs (j+1) _ (by simp at h ⊢;omega)]
  have gL:pB+j<cs.toList.length:=by simp at h ⊢;omega
  simp only[Array.toList_setIfInBounds,fN]
  have e1:(cs.toList.set (pB+j) v).take (pB+(j+1))=cs.toList.take (pB+j)++[v]:=by
   rw[show pB+(j+1)=pB+j+1 by omega,List.take_add_one,List.getElem?_set_self gL]
   rw[List.take_set_of_le (by omega)]
   rfl
  have e2:(cs.toList.set (pB+j) v).drop (pB+(j+1)+vs.length)=cs.toList.drop (pB+j+(vs.length+1)):=by
   rw[List.drop_set_of_lt (by omega)]
   congr 1
   omega
  rw[e1,e2]
  simp
theorem P8 (pB:Nat) (v:Value) (cs:Array Value) (h:pB+v.cells.size<=cs.size):
  (v.cells.zipIdx.foldl (fun cs (x:Value×Nat)=>cs.setIfInBounds (pB+x.2) x.1) cs).toList=cs.toList.take pB++v.cells.toList++cs.toList.drop (pB+v.cells.size):=by
 have:=LA pB v.cells.toList 0 cs (by simpa using h)
 rw[<-Array.foldl_toList]
 simpa using this
def lA (w:World) (S:Nat->Prop):List (Nat×D)->List (Nat×Value)->Prop
 |[],vs=>vs=[]
 |(i,d)::ds,vs=>∃v us,vs=(i,v)::us/\D.is w S d v/\lA w S ds us
theorem P7 {w:World} {S:Nat->Prop} {RY:Nat->Option (Nat×Nat)}:∀{ds:List (Nat×D)} {vs:List (Nat×Value)} {cs r:List D} {us:Array Value},lA w S ds vs->AI RY cs ds=some r->aU w S cs us.toList->
  ∃DV,Instr.fill RY us vs=some DV/\aU w S r DV.toList
 |[],vs,cs,r,us,h,hb,hc=>by
  simp only[lA] at h
  subst h
  simp only[AI] at hb
  injection hb with hb
  subst hb
  exact⟨us,rfl,hc⟩
 |(i,d)::ds,vs,cs,r,us,h,hb,hc=>by
  simp only[lA] at h
  obtain⟨v,vs',rfl,h1,h2⟩:=h
  simp only[AI] at hb
  split at hb
  ·rename_i pB size c hp hdc
   split at hb
   ·rename_i aR
    have hu:=D.CD h1 hdc
    have hl:=dU hu
    have GA:=dU hc
    have e1:v.cells.toList.length=v.cells.size:=jS
    have e2:us.toList.length=us.size:=jS
    simp only[Instr.fill,hp]
    have hn:¬(decide (v.cells.size≠size)||decide (pB+v.cells.size>us.size))=true:=by
     simp;omega
    rw[aD hn]
    refine P7 h2 hb ?_
    have:=P8 pB v us (by omega)
    rw[show(v.cells.zipIdx.foldl (fun cs (x:Value×Nat)=>match x with|(c,j)=>cs.setIfInBounds (pB+j) c) us)=v.cells.zipIdx.foldl (fun cs (x:Value×Nat)=>cs.setIfInBounds (pB+x.2) x.1) us from rfl,this]
    unfold qD
    rw[show pB+c.length=pB+v.cells.size by omega]
    exact dS (dS (gR _ hc) hu) (gQ _ hc)
   ·cases hb
  ·cases hb
def gJ (P:Program) (t:TypeId):Nat->Option (Nat×Nat):=
 match aS P t with
 |some ⟨.struct fs,_,_,_⟩=>fun i=>match fs[i]? with
  |some (pB,ft)=>(match aS P ft with
   |some T=>some (pB,T.size)
   |none=>none)
  |none=>none
 |some ⟨.array _ e,_,_,_⟩=>fun i=>match aS P e with
  |some E=>some (i * E.size,E.size)
  |none=>none
 |_=>fun _=>none
def gG (P:Program) (t:TypeId):Bool:=
 match aS P t with
 |some ⟨.struct fs,_,_,_⟩=>fs.all fun f=>(aS P f.2).isSome
 |some ⟨.array _ e,_,_,_⟩=>(aS P e).isSome
 |_=>false
def PR (P:Program) (t:TypeId) (ds:List (Nat×D)) (K:D->Prop):Prop:=
 match aS P t with
 |some ⟨_,_,_,some zs⟩=>zs.all Value.oneCell'=true/\gG P t=true/\(match AI (gJ P t) (zs.map .val) ds with
  |some cs=>K (.agg cs)
  |none=>False)
 |_=>False
theorem IG {p q:Nat->Option (Nat×Nat)}:∀{vs:List (Nat×Value)} {us:Array Value},(∀x∈vs,p x.1=q x.1)->Instr.fill p us vs=Instr.fill q us vs
 |[],_,_=>rfl
 |(i,v)::vs,us,h=>by
  simp only[Instr.fill]
  rw[<-h (i,v) (by simp)]
  cases hp:p i with
  |none=>rfl
  |some x=>
   obtain⟨pB,size⟩:=x
   simp only
   split
   ·rfl
   ·exact IG fun x hx=>h x (by simp [hx])
theorem WV {P:Program} {w:World} {α β:Type} (f:α->Sem β) (g:α->β):∀(l:List α),(∀x∈l,(f x).run P w=.ok (g x) w)->(l.mapM f).run P w=.ok (l.map g) w
 |[],_=>rfl
 |x::l,h=>by
  rw[List.mapM_cons]
  simp only[Sem.run_bind,h x (by simp),Result.andThen,WV f g l (fun y hy=>h y (by simp [hy])),Sem.run_pure,fT]
theorem aEl {P:Program} {w:World} {S:Nat->Prop} {t:TypeId} {ds:List (Nat×D)} {vs:Array (Nat×Value)} {K:D->Prop} (h:PR P t ds K) (hx:lA w S ds vs.toList):
  ∃u d,(Instr.build t vs).run P w=.ok u w/\D.is w S d u/\K d:=by
 unfold PR at h
 split at h
 ·rename_i dd _ _ zs hT
  obtain⟨h1,eW,h⟩:=h
  split at h
  ·rename_i cs uS
   obtain⟨z,h2,h3⟩:=qG hT rfl w
   have hz:aU w S (zs.map .val) z.cells.toList:=by rw[h3];exact kP zs (fun v hv=>(eD.1 h1) v hv)
   obtain⟨us,h4,h5⟩:=P7 hx uS hz
   refine⟨.agg us,.agg cs,?_,by simp only[D.is];exact⟨us.toList,by simp,h5⟩,h⟩
   obtain⟨d,i,a1,a2,a3⟩:=cU hT
   injection a3 with a3
   unfold Instr.build
   simp only[Sem.run_bind,h2,Result.andThen,bI a1]
   cases d with
   |struct fs=>
    simp only[iU] at a3
    subst a3
    have IP:(fs.mapM fun f=>(do pure (f.offset,<-sizeOf f.type):Sem (Nat×Nat))).run P w=.ok (fs.map fun f=>(f.offset,P.cellsOf f.type)) w:=by
     rw[Array.mapM_eq_mapM_toList]
     have:=WV (P:=P) (w:=w) (fun f:Field=>(do pure (f.offset,<-sizeOf f.type):Sem (Nat×Nat))) (fun f=>(f.offset,P.cellsOf f.type)) fs.toList (fun f hf=>by
      have hs:(aS P f.type).isSome=true:=by
       unfold gG at eW
       rw[hT] at eW
       simp only[List.all_map,eD] at eW
       exact eW f hf
      cases FF:aS P f.type with
      |none=>rw[FF] at hs;cases hs
      |some T=>
       obtain⟨i',b1,b2,b3,b4,b5⟩:=nD FF w
       simp only[Sem.run_bind,eU FF,Result.andThen,Sem.run_pure,Program.cellsOf,b5,b2]
       rfl)
     simp only[map_eq_pure_bind,Sem.run_bind,this,Result.andThen,Sem.run_pure]
     congr 1
     exact kY (by simp)
    simp only[IP,Sem.run_bind,Result.andThen]
    have e:Instr.fill (fun i=>(fs.map fun f=>(f.offset,P.cellsOf f.type))[i]?) z.cells vs.toList=Instr.fill (gJ P t) z.cells vs.toList:=by
     refine IG fun x _=>?_
     unfold gJ
     rw[hT]
     simp only[cR,DL,zQ]
     cases hf:fs[x.1]? with
     |none=>rfl
     |some f=>
      have hs:(aS P f.type).isSome=true:=by
       unfold gG at eW
       rw[hT] at eW
       simp only[List.all_map,eD] at eW
       exact eW f (by rw[Array.mem_toList_iff];exact zP hf)
      simp only[jV]
      cases FF:aS P f.type with
      |none=>rw[FF] at hs;cases hs
      |some T=>
       obtain⟨i',b1,b2,b3,b4,b5⟩:=nD FF w
       simp only[Program.cellsOf,b5,b2]
       rfl
    rw[e,h4]
    rfl
   |array n el=>
    cases hE:aS P el with
    |none=>
     exfalso
     unfold gG at eW
     rw[hT,a3] at eW
     simp only[iU,hE] at eW
     cases eW
    |some E=>
     simp only[Sem.run_bind,eU hE,Result.andThen]
     have e:Instr.fill (fun i=>some (i * E.size,E.size)) z.cells vs.toList=Instr.fill (gJ P t) z.cells vs.toList:=by
      refine IG fun x _=>?_
      unfold gJ
      rw[hT,a3]
      simp only[iU,hE]
     rw[e,h4]
     rfl
   |_=>
    exfalso
    unfold gG at eW
    rw[hT,a3] at eW
    cases eW
  ·exact h.elim
 ·exact h.elim
theorem qF {w:World} {S:Nat->Prop} {b sz:Nat}:∀{els:List (List D)} {o:Nat},dC w S b sz o els->∃vs,aU w S els.flatten vs/\vs.length=els.length * sz/\∀(j:Nat) (v:Value),vs[j]?=some v->w.cell? ⟨b,o+j,none⟩=some v
 |[],_,_=>⟨[],by simp [aU],by simp,fun j v h=>by simp at h⟩
 |e::els,o,h=>by
  simp only[dC] at h
  obtain⟨h1,h2,h3⟩:=h
  obtain⟨vs,h4,h5⟩:=dR h2
  obtain⟨us,h6,h7,h8⟩:=qF h3
  have hl:=dU h4
  refine⟨vs++us,by rw[v8];exact dS h4 h6,by simp [h7,eK];omega,fun j v hj=>?_⟩
  rcases jW j vs.length with gL|EC
  ·rw[nS gL] at hj;exact h5 j v hj
  ·rw[qX EC] at hj
   have:=h8 _ v hj
   rwa[show o+sz+(j - vs.length)=o+j by omega] at this
theorem II {sz:Nat}:∀{els:List (List D)} {i:Nat} {el:List D},(∀e∈els,e.length=sz)->els[i]?=some el->(els.flatten.drop (i * sz)).take sz=el
 |[],i,el,_,h=>by simp at h
 |e::els,0,el,hs,h=>by
  simp at h
  subst h
  have:=hs e (by simp)
  simp [<-this]
 |e::els,i+1,el,hs,h=>by
  have h1:=hs e (by simp)
  have h2:=II (fun x hx=>hs x (by simp [hx])) (show els[i]?=some el by simpa using h)
  rw[v8,eK,Nat.one_mul,List.drop_append,zN (by omega),h1,fR]
  simpa [Nat.add_sub_cancel] using h2
theorem rK {w:World} {S:Nat->Prop} {b sz o:Nat} {els:List (List D)} {vs:List Value} (hs:∀e∈els,e.length=sz) (hv:aU w S els.flatten vs) (hc:∀(j:Nat) (v:Value),vs[j]?=some v->w.cell? ⟨b,o+j,none⟩=some v):dC w S b sz o els:=
 eY fun i el hi=>⟨hs el (jQ hi),by
  have h1:=gR sz (gQ (i * sz) hv)
  rw[II hs hi] at h1
  refine dV h1 fun j v hj=>?_
  rw[nU] at hj
  split at hj
  ·rw[yL] at hj
   rw[zY]
   exact hc _ v hj
  ·cases hj⟩
theorem oI {w:World} {S:Nat->Prop} {b sz o:Nat} {els:List (List D)} (h:dC w S b sz o els):∀e∈els,e.length=sz:=fun e he=>by
 obtain⟨i,hi⟩:=uG he
 exact(eA h i e hi).1
def pC (sz:Nat):List (Nat×D)->Nat->Option (List (List D))
 |[],_=>some []
 |(i,d)::ds,k=>if i=k then (match d.cells,pC sz ds (k+1) with
  |some c,some els=>if c.length=sz then some (c::els) else none
  |_,_=>none) else none
def O7 (P:Program) (H:aA) (t:TypeId) (len:Nat) (ds:List (Nat×D)) (K:D->aA->Prop):Prop:=
 match aS P t with
 |some ⟨.slice e,_,_,_⟩=>(match aS P e with
  |some ⟨_,sz,_,some zs⟩=>zs.length=sz/\ds.length=len/\len * sz<=16777216/\(match pC sz ds 0 with
   |some els=>∀b,H b=none->K (.os b 0 sz 0 len) (H.bH b (.row e 0 sz els))
   |none=>False)
  |_=>False)
 |_=>False
theorem BX {w:World} {S:Nat->Prop} {sz:Nat}:∀{ds:List (Nat×D)} {k:Nat} {els:List (List D)} {vs:List (Nat×Value)},pC sz ds k=some els->lA w S ds vs->
  els.length=ds.length/\(∀e∈els,e.length=sz)/\∀(us:Array Value),(k+ds.length) * sz<=us.size->∃DV,Instr.fill (fun i=>some (i * sz,sz)) us vs=some DV/\DV.size=us.size/\DV.toList.take (k * sz)=us.toList.take (k * sz)/\aU w S els.flatten ((DV.toList.drop (k * sz)).take (ds.length * sz))
 |[],k,els,vs,h,hp=>by
  simp only[pC] at h
  injection h with h
  subst h
  simp only[lA] at hp
  subst hp
  exact⟨rfl,by simp,fun us _=>⟨us,rfl,rfl,rfl,by simp [aU]⟩⟩
 |(i,d)::ds,k,els,vs,h,hp=>by
  simp only[pC] at h
  split at h
  ·rename_i JY
   subst JY
   split at h
   ·rename_i c aG5 hc hr
    split at h
    ·rename_i B2
     injection h with h
     subst h
     simp only[lA] at hp
     obtain⟨v,vs',rfl,h1,h2⟩:=hp
     obtain⟨h3,h4,h5⟩:=BX hr h2
     have hu:=D.CD h1 hc
     have hl:=dU hu
     have e1:v.cells.toList.length=v.cells.size:=jS
     refine⟨by simp [h3],by simpa [B2] using h4,fun us hus=>?_⟩
     have aIq:(i+(ds.length+1)) * sz=i * sz+sz+ds.length * sz:=by rw[eK,eK];omega
     simp only[fN,aIq] at hus
     have kQ:=P8 (i * sz) v us (by omega)
     have aJI:(v.cells.zipIdx.foldl (fun cs (x:Value×Nat)=>cs.setIfInBounds (i * sz+x.2) x.1) us).size=us.size:=by
      rw[<-jS,kQ]
      simp
      omega
     obtain⟨DV,h6,h7,h8,h9⟩:=h5 (v.cells.zipIdx.foldl (fun cs (x:Value×Nat)=>cs.setIfInBounds (i * sz+x.2) x.1) us) (by
      rw[aJI,eK,eK];omega)
     have mZ:(i+1) * sz=i * sz+sz:=by rw[eK];omega
     rw[mZ] at h8 h9
     refine⟨DV,?_,by rw[h7,aJI],?_,?_⟩
     ·simp only[Instr.fill]
      have hn:¬(decide (v.cells.size≠sz)||decide (i * sz+v.cells.size>us.size))=true:=by simp;omega
      rw[aD hn]
      exact h6
     ·have:=cV (List.take (i * sz)) h8
      rw[DQ,DQ,kQ] at this
      rw[show min (i * sz) (i * sz+sz)=i * sz by omega] at this
      rw[this,dN,G6 (by simp;omega),DQ,Nat.min_self]
     ·have aX7:(DV.toList.drop (i * sz)).take sz=v.cells.toList:=by
       have:=cV (fun l=>(l.drop (i * sz))) h8
       simp only[List.drop_take] at this
       rw[show i * sz+sz - i * sz=sz by omega,kQ] at this
       rw[this,dN,List.drop_append,dJ,jS]
       rw[zN (by simp;omega),show i * sz - min (i * sz) us.size=0 by omega,fR,iY,G6 (by omega),dQ (by omega)]
      have vM:(DV.toList.drop (i * sz)).take ((ds.length+1) * sz)=v.cells.toList++(DV.toList.drop (i * sz+sz)).take (ds.length * sz):=by
       rw[<-aX7,eK,Nat.one_mul,Nat.add_comm (ds.length * sz) sz,List.take_add,zX]
      rw[fN,vM,v8]
      exact dS hu h9
    ·cases h
   ·cases h
  ·cases h
theorem R8 {P:Program} {H:aA} {w:World} (hH:fQ w H) {t:TypeId} {len:Nat} {ds:List (Nat×D)} {vs:Array (Nat×Value)} {K:D->aA->Prop} (h:O7 P H t len ds K) (hx:lA w H.others ds vs.toList):
  ∃r d' w' H',(Instr.buildSlice t len vs).run P w=.ok r w'/\D.is w' H'.others d' r/\fQ w' H'/\Ev H w H' w'/\K d' H'/\∃A,r=.slice A len len:=by
 unfold O7 at h
 split at h
 ·rename_i e _ _ _ hT
  split at h
  ·rename_i dE sz byE zs hE
   obtain⟨FJ,eB,aR,h⟩:=h
   split at h
   ·rename_i els AM
    obtain⟨d,i,a1,a2,a3⟩:=cU hT
    injection a3 with a3
    cases d <;> simp [iU] at a3
    subst a3
    obtain⟨z,hz,hzc⟩:=qG hE rfl w
    obtain⟨h1,h2,h3⟩:=BX AM hx
    obtain⟨zero,WK⟩:∃zero:Array Value,zero=if len * sz=0 then #[] else z.cells:=⟨_,rfl⟩
    obtain⟨DV,h4,h5,_,h6⟩:=h3 ((Array.range (len * sz)).map (zero[·% zero.size]!)) (by simp [eB])
    rw[zZ,iY,eB] at h6
    have h7:DV.toList.take (len * sz)=DV.toList:=dQ (by rw[jS,h5];simp)
    rw[h7] at h6
    refine⟨.slice (some ⟨w.heap.size,0,none⟩) len len,_,w.alloc (Obj.cells DV e),_,?_,?_,?_,iO _ _ hH,h w.heap.size (gZ hH),_,rfl⟩
    ·unfold Instr.buildSlice
     simp only[Sem.run_bind,bI a1,Result.andThen,eU hE]
     rw[aD (by omega)]
     by_cases h0:len * sz=0
     ·rw[aH h0] at WK ⊢
      subst WK
      simp only[Sem.run_bind,Sem.run_pure,Result.andThen,h4,newRow,newObj,Sem.run]
      rfl
     ·rw[aD h0] at WK ⊢
      subst WK
      simp only[Sem.run_bind,hz,Sem.run_pure,Result.andThen,h4,newRow,newObj,Sem.run]
      rfl
    ·simp only[D.is]
     refine⟨_,_,rfl,fA _,?_⟩
     rcases zT len with h0|h0
     ·exact .inl h0
     ·right
      refine⟨by simp,DV,e,(0,0),heap_alloc_new w _,?_⟩
      rw[h5]
      simp
    ·have:=EP (vs:=DV.toList) hH e sz els h6 h2 (by rw[h1,eB,jS,h5];simp)
     simpa using this
   ·exact h.elim
  ·exact h.elim
 ·exact h.elim
theorem W7 {P:Program} {H:aA} {w:World} (hH:fQ w H) {t:TypeId} {len:Nat} {ds:List (Nat×D)} {vs:Array (Nat×Value)} {K:D->aA->Prop} (h:O7 P H t len ds K) (hx:lA w H.others ds vs.toList):
  ∃r d' w' H',(Instr.buildSlice t len vs).run P w=.ok r w'/\D.is w' H'.others d' r/\fQ w' H'/\Ev H w H' w'/\K d' H':=
 let ⟨r,d',w',H',h1,h2,h3,h4,h5,_⟩:=R8 hH h hx
 ⟨r,d',w',H',h1,h2,h3,h4,h5⟩
end Go.Proofs.YtelbfbioomcmeaaGreatDoor

