/- Lemmas and contracts of functions, several texts in one. -/
import Derived.Test.YtelbfbioomcmeaaGreatDoorQ02
import Derived.Maps.Keyed
import Derived.RangeFuncRecord
set_option maxRecDepth 100000
set_option maxHeartbeats 4000000
set_option linter.all false
namespace Go.Proofs.YtelbfbioomcmeaaGreatDoor
open Go.RowKit
def UK (P:Program) (H:aA) (t:TypeId) (n c:D) (K:D->aA->Prop):Prop:=
 match n,c,aS P t with
 | .val (.int _ l),.val (.int _ c),some ⟨.slice e,_,_,_⟩=>(match aS P e with
  |some ⟨_,sz,sY,some zs⟩=>zs.length=sz/\zs.all Value.oneCell'=true/\0<=l/\l<=c/\(sY:Int) * c<=281474976710656/\c<=9223372036854775807/\
   ∀b,H b=none->K (.os b 0 sz 0 l.toNat) (H.bH b (.row e 0 sz (List.replicate l.toNat (zs.map .val))))
  |_=>False)
 |_,_,_=>False
theorem aEx {P:Program} {H:aA} {w:World} (hH:fQ w H) {t:TypeId} {n c:D} {v u:Value} {K:D->aA->Prop} (h:UK P H t n c K) (hn:D.is w H.others n v) (hc:D.is w H.others c u):
  ∃r d' w' H',(Instr.makeSlice t v u).run P w=.ok r w'/\D.is w' H'.others d' r/\fQ w' H'/\Ev H w H' w'/\K d' H':=by
 unfold UK at h
 split at h
 ·rename_i kl l kc cc e _ _ _ hT
  have e1:=dF hn
  have e2:=dF hc
  subst e1 e2
  split at h
  ·rename_i dE sz byE zs hE
   obtain⟨FJ,Q0,h0,QX,hb,h63,h⟩:=h
   obtain⟨d,i,a1,a2,a3⟩:=cU hT
   injection a3 with a3
   cases d <;> simp [iU] at a3
   subst a3
   obtain⟨i',b1,b2,b3,b4,b5⟩:=nD hE w
   simp only at b2 b3 b4
   cases hz:i'.zero with
   |none=>rw[hz] at b4;cases b4
   |some z=>
    rw[hz] at b4
    simp at b4
    have hr:=run_make (P:=P) w t e i' z a1 b5 hz kl kc l cc h0 QX (by rw[<-b3];exact hb) h63
    refine⟨_,_,_,_,hr,?_,?_,iO _ _ hH,h w.heap.size (gZ hH)⟩
    ·simp only[D.is]
     refine⟨_,_,rfl,by omega,?_⟩
     right
     refine⟨by simp,_,e,(0,0),heap_alloc_new w _,?_⟩
     rw[size_madeCells,b2]
     simp
    ·refine hH.alloc ⟨_,(0,0),heap_alloc_new w _,LB _,?_,?_⟩
     ·rw[size_madeCells,zO,b2,iZ]
      exact jP _ (by omega)
     ·refine eY fun j el hj=>?_
      rw[List.getElem?_replicate] at hj
      split at hj
      ·rename_i kR
       injection hj with hj
       subst hj
       refine⟨by simp [FJ],?_⟩
       refine dV (kP zs (fun v hv=>(eD.1 Q0) v hv)) fun q v hq=>?_
       have hqz:q<sz:=by have:=(kD.1 hq).1;omega
       rw[cell_of_row _ _ _ _ _ _ (heap_alloc_new w _)]
       have gL:0+j * sz+q<cc.toNat * i'.size:=by
        rw[<-b2,iZ]
        exact rJ (by omega) hqz
       unfold madeCells
       rw[DL,HA,aH gL]
       have aXp:z.cells.size=sz:=by rw[<-jS,<-b4];exact FJ
       simp only[jV]
       rw[aXp,iZ,Nat.add_comm,Nat.add_mul_mod_self_right,wC hqz]
       rw[b4] at hq
       rw[<-hq]
       have:q<z.cells.size:=by omega
       simp [this]
      ·cases hj
  ·exact h.elim
 ·exact h.elim
def AH (aD6:Int):Option D->Option Int
 |none=>some aD6
 |some (.val (.int _ i))=>some i
 |_=>none
def FP (w:World) (S:Nat->Prop) (d:Option D) (v:Option Value):Prop:=match d,v with|some d,some v=>D.is w S d v|none,none=>True|_,_=>False
theorem PQ {w:World} {S:Nat->Prop} {aD6 i:Int} {d:Option D} {v:Option Value} (h:AH aD6 d=some i) (hv:FP w S d v):
  (d=none/\v=none/\i=aD6)\/∃k,v=some (.int k i):=by
 cases d with
 |none=>cases v with
  |none=>simp only[AH] at h;injection h with h;exact .inl ⟨rfl,rfl,h.symm⟩
  |some v=>exact hv.elim
 |some d=>cases v with
  |none=>exact hv.elim
  |some v=>
   simp only[FP] at hv
   cases d with
   |val u=>
    have e:=dF hv
    subst e
    cases v with
    |int k n=>simp only[AH] at h;injection h with h;subst h;exact .inr ⟨k,rfl⟩
    |_=>simp [AH] at h
   |_=>simp [AH] at h
theorem vS {P:Program} {w:World} {isSl:Bool} {len cap:Nat} {lo hi:Option Value} {l h:Int} (hl:(lo=none/\l=0)\/∃k,lo=some (.int k l)) (hh:(hi=none/\h=len)\/∃k,hi=some (.int k h)) (h0:0<=l) (h1:l<=h) (h2:h<=cap):
  (Instr.sliceBounds isSl len cap lo hi none).run P w=.ok (l.toNat,h.toNat,cap) w:=by
 have sb:∀(k:IntKind) (i:Int) (y:Nat) code,0<=i->i<=y->(Instr.sliceBound (.int k i) y code).run P w=.ok i.toNat w:=fun k i y code a b=>by
  unfold Instr.sliceBound
  simp only[Sem.run_bind,asIntOf,Sem.run_pure,Result.andThen]
  rw[aH ⟨a,b⟩]
  rfl
 have a0O:((h.toNat:Nat):Int)=h:=Int.toNat_of_nonneg (by omega)
 have aBd:∀code,(match lo with|some v=>Instr.sliceBound v h.toNat code|none=>pure 0:Sem Nat).run P w=.ok l.toNat w:=fun code=>by
  rcases hl with⟨rfl,rfl⟩|⟨k,rfl⟩
  ·rfl
  ·exact sb k l _ _ h0 (by omega)
 unfold Instr.sliceBounds
 rcases hh with⟨rfl,rfl⟩|⟨k,rfl⟩
 ·rw[bL] at aBd ⊢
  simp only[Sem.run_bind,Sem.run_pure,Result.andThen,Option.isSome_none,jT,fE]
  have:=aBd .sliceB
  rcases hl with⟨rfl,rfl⟩|⟨k',rfl⟩
  ·rfl
  ·simp only[Sem.run_bind] at this ⊢
   rw[this]
   rfl
 ·simp only[Sem.run_bind,Sem.run_pure,Result.andThen,sb k h cap _ (by omega) h2,Option.isSome_none,jT,fE]
  have:=aBd .sliceB
  rcases hl with⟨rfl,rfl⟩|⟨k',rfl⟩
  ·rfl
  ·simp only[Sem.run_bind] at this ⊢
   rw[this]
   rfl
def CE (sz:Nat):Nat->List D->List (List D)
 |0,_=>[]
 |k+1,cs=>cs.take sz::CE sz k (cs.drop sz)
theorem K5 (sz:Nat):∀(k:Nat) (cs:List D),(CE sz k cs).length=k
 |0,_=>rfl
 |k+1,cs=>by rw[CE,fN,K5 sz k]
def SB (P:Program) (H:aA) (t:TypeId) (x:D) (lo hi mx:Option D) (K:D->Prop):Prop:=
 match aS P t with
 |some ⟨.slice e,_,_,_⟩=>(match aS P e,mx with
  |some E,none=>(match x with
   | .seq sz els=>(match AH 0 lo,AH els.length hi with
    |some l,some h=>sz=E.size/\0<=l/\l<=h/\h<=(els.length:Int)/\K (.seq sz ((els.take h.toNat).drop l.toNat))
    |_,_=>False)
   | .os b o sz k n=>(match AH 0 lo,AH n hi with
    |some l,some h=>sz=E.size/\0<=l/\l<=h/\h<=(n:Int)/\K (.os b o sz (k+l.toNat) (h.toNat - l.toNat))
    |_,_=>False)
   | .val (.slice none 0 0)=>(match AH 0 lo,AH 0 hi with
    |some l,some h=>l=0/\h=0/\K (.val (.slice none 0 0))
    |_,_=>False)
   | .ND=>(match AH 0 lo,AH 0 hi with
    |some l,some h=>l=0/\h=0/\K .ND
    |_,_=>False)
   | .val (.slice (some ⟨b,o,none⟩) n c)=>(match AH 0 lo,AH n hi with
    |some l,some h=>l=0/\0<=h/\h<=(n:Int)/\n<=c/\K (.val (.slice (some ⟨b,o,none⟩) h.toNat c))
    |_,_=>False)
   |_=>False)
  |some E,some (.val (.int _ 0))=>(match AH 0 lo,hi with
   |some 0,some (.val (.int _ 0))=>(match x with
    | .seq _ _| .os _ _ _ _ _| .ND=>K .ND
    | .val (.slice none _ _)=>K (.val (.slice none 0 0))
    |_=>False)
   |_,_=>False)
  |_,_=>False)
 |some ⟨.string,_,_,_⟩=>(match x,mx with
  | .val (.string s),none=>(match AH 0 lo,AH s.size hi with
   |some l,some h=>0<=l/\l<=h/\h<=(s.size:Int)/\K (.val (.string (s.extract l.toNat h.toNat)))
   |_,_=>False)
  |_,_=>False)
 |some ⟨.array n e,_,_,_⟩=>(match aS P e,mx,x with
  |some E,none,.rp cs=>(match AH 0 lo,AH n hi with
   |some l,some h=>if E.size=1 then n<=cs.length/\0<=l/\l<=h/\h<=(n:Int)/\K (.seq 1 (((cs.take h.toNat).drop l.toNat).map fun c=>[c]))
    else n * E.size<=cs.length/\0<=l/\l<=h/\h<=(n:Int)/\K (.seq E.size (CE E.size (h.toNat - l.toNat) (cs.drop (l.toNat * E.size))))
   |_,_=>False)
  |_,_,_=>False)
 |_=>False
theorem FT {w:World} {S:Nat->Prop} {b:Nat}:∀{cs:List D} {o:Nat},cK w S b o cs->dC w S b 1 o (cs.map fun c=>[c])
 |[],_,_=>by simp only[pM,dC]
 |c::cs,o,h=>by
  simp only[cK] at h
  simp only[fT,dC,cK]
  exact⟨rfl,⟨h.1,trivial⟩,FT h.2⟩
theorem C7 {w:World} {S:Nat->Prop} {b sz:Nat}:∀{k:Nat} {cs:List D} {o:Nat},cK w S b o cs->k * sz<=cs.length->dC w S b sz o (CE sz k cs)
 |0,_,_,_,_=>by simp only[CE,dC]
 |k+1,cs,o,h,hl=>by
  rw[wH] at hl
  simp only[CE,dC]
  refine⟨by rw[dJ];omega,vG h _,C7 (j8 h _) (by rw[kG];omega)⟩
theorem aFA {P:Program} {H:aA} {w:World} {t:TypeId} {x:D} {lo hi mx:Option D} {v:Value} {vlo vhi vmx:Option Value} {K:D->Prop} (h:SB P H t x lo hi mx K) (hx:D.is w H.others x v)
  (hlo:FP w H.others lo vlo) (hhi:FP w H.others hi vhi) (hmx:FP w H.others mx vmx):∃u d,(Instr.sliceAt t v vlo vhi vmx).run P w=.ok u w/\D.is w H.others d u/\K d:=by
 have low:∀{l:Int},AH 0 lo=some l->(vlo=none/\l=0)\/∃k,vlo=some (.int k l):=fun hb=>by
  rcases PQ hb hlo with⟨_,h1,h2⟩|h1
  ·exact .inl ⟨h1,h2⟩
  ·exact .inr h1
 have QT:∀{m h:Int},AH m hi=some h->(vhi=none/\h=m)\/∃k,vhi=some (.int k h):=fun hb=>by
  rcases PQ hb hhi with⟨_,h1,h2⟩|h1
  ·exact .inl ⟨h1,h2⟩
  ·exact .inr h1
 unfold SB at h
 split at h
 ·rename_i e _ _ _ hT
  obtain⟨dT,iT,a1,a2,a3⟩:=cU hT
  injection a3 with a3
  cases dT <;> simp [iU] at a3
  subst a3
  split at h
  ·rename_i E hE
   cases vmx with
   |some _=>exact hmx.elim
   |none=>
   have key:∀{A:Option Addr} {n c:Nat} {l hh:Int},((vlo=none/\l=0)\/∃k,vlo=some (.int k l))->((vhi=none/\hh=n)\/∃k,vhi=some (.int k hh))->0<=l->l<=hh->hh<=n->n<=c->
     (Instr.sliceAt t (.slice A n c) vlo vhi none).run P w=.ok (.slice (if c=l.toNat then A else A.map (·.add (l.toNat * E.size))) (hh.toNat - l.toNat) (c - l.toNat)) w:=fun {A n c l hh} h1 h2 h3 h4 h5 h6=>by
    unfold Instr.sliceAt
    simp only[Sem.run_bind,bI a1,Result.andThen,Instr.slice,vS (P:=P) (w:=w) (isSl:=true) (len:=n) (cap:=c) h1 h2 h3 h4 (by omega),eU hE,Sem.run_pure]
   split at h
   ·rename_i sz els
    split at h
    ·rename_i l hh nX WA
     obtain⟨rfl,h0,h1,h2,h⟩:=h
     simp only[D.is] at hx
     obtain⟨A,c,rfl,h3,h4⟩:=hx
     refine⟨_,_,key (low nX) (QT WA) h0 h1 h2 h3,?_,h⟩
     simp only[D.is]
     have eB:((els.take hh.toNat).drop l.toNat).length=hh.toNat - l.toNat:=by rw[kG,dJ];omega
     refine⟨_,_,by rw[eB],by rw[eB];omega,?_⟩
     rcases h4 with rfl|⟨b,o,rfl,h5,h6,h7⟩
     ·left;simp
     ·by_cases B2:c=l.toNat
      ·left
       apply gP
       rw[eB];omega
      ·right
       rw[aD B2]
       exact⟨b,o+l.toNat * E.size,by rw[jV,Addr.add_lit],h5,h6,qE (n3 h7 _) _⟩
    ·exact h.elim
   ·rename_i b o sz k n
    split at h
    ·rename_i l hh nX WA
     obtain⟨rfl,h0,h1,h2,h⟩:=h
     simp only[D.is] at hx
     obtain⟨A,c,rfl,h3,h4⟩:=hx
     refine⟨_,_,key (low nX) (QT WA) h0 h1 h2 h3,?_,h⟩
     simp only[D.is]
     refine⟨_,_,rfl,by omega,?_⟩
     by_cases B2:c=l.toNat
     ·left;omega
     ·right
      rcases h4 with h4|⟨rfl,cs,ty,fr,h5,h6⟩
      ·omega
      ·rw[aD B2,jV,Addr.add_lit,zY,<-eK]
       exact⟨rfl,cs,ty,fr,h5,by rw[show k+l.toNat+(c - l.toNat)=k+c by omega];exact h6⟩
    ·exact h.elim
   ·split at h
    ·rename_i l hh nX WA
     obtain⟨rfl,rfl,h⟩:=h
     have e1:=dF hx
     subst e1
     refine⟨_,_,key (n:=0) (low nX) (QT WA) (by omega) (by omega) (by omega) (by omega),?_,h⟩
     simp only[D.is]
     rfl
    ·exact h.elim
   ·split at h
    ·rename_i l hh nX WA
     obtain⟨rfl,rfl,h⟩:=h
     simp only[D.is] at hx
     obtain⟨A,rfl⟩:=hx
     refine⟨_,_,key (n:=0) (low nX) (QT WA) (by omega) (by omega) (by omega) (by omega),?_,h⟩
     simp only[D.is]
     exact⟨_,rfl⟩
    ·exact h.elim
   ·split at h
    ·rename_i l hh nX WA
     obtain⟨rfl,h0,h1,h2,h⟩:=h
     have e1:=dF hx
     subst e1
     refine⟨_,_,key (low nX) (QT WA) (by omega) h0 h1 h2,?_,h⟩
     have ea:∀(b o:Nat),(if 0=(0:Int).toNat then some (⟨b,o,none⟩:Addr) else none)=some ⟨b,o,none⟩:=fun _ _=>rfl
     simp only[D.is,Int.toNat_zero,Nat.sub_zero,zZ,jV,Addr.add_lit,z8,ite_self]
    ·exact h.elim
   ·exact h.elim
  ·rename_i E _ _ hE
   cases vmx with
   |none=>exact hmx.elim
   |some vm=>
   simp only[FP,D.is] at hmx
   subst hmx
   split at h
   ·rename_i k0 nX
    cases vhi with
    |none=>exact hhi.elim
    |some vh=>
    simp only[FP,D.is] at hhi
    subst hhi
    have hl:=low nX
    have sb:∀(k:IntKind) (y:Nat) code,(Instr.sliceBound (.int k 0) y code).run P w=.ok 0 w:=fun k y code=>by
     unfold Instr.sliceBound
     simp only[Sem.run_bind,asIntOf,Sem.run_pure,Result.andThen]
     rw[aH ⟨by omega,by omega⟩]
     rfl
    have key:∀{km:IntKind} {A:Option Addr} {n c:Nat},(Instr.sliceAt t (.slice A n c) vlo (some (.int k0 0)) (some (.int km 0))).run P w=.ok (.slice A 0 0) w:=fun {km A n c}=>by
     unfold Instr.sliceAt
     simp only[Sem.run_bind,bI a1,Result.andThen,Instr.slice,Instr.sliceBounds,sb,Sem.run_pure]
     rcases hl with⟨rfl,_⟩|⟨k',rfl⟩
     ·simp only[Sem.run_pure,eU hE]
      rfl
     ·simp only[sb,Sem.run_pure,eU hE]
      rfl
    split at h
    ·simp only[D.is] at hx
     obtain⟨A,c,rfl,_⟩:=hx
     exact⟨_,_,key,by simp only[D.is];exact⟨_,rfl⟩,h⟩
    ·simp only[D.is] at hx
     obtain⟨A,c,rfl,_⟩:=hx
     exact⟨_,_,key,by simp only[D.is];exact⟨_,rfl⟩,h⟩
    ·simp only[D.is] at hx
     obtain⟨A,rfl⟩:=hx
     exact⟨_,_,key,by simp only[D.is];exact⟨_,rfl⟩,h⟩
    ·have e1:=dF hx
     subst e1
     exact⟨_,_,key,by simp only[D.is],h⟩
    ·exact h.elim
   ·exact h.elim
  ·exact h.elim
 ·rename_i hT
  obtain⟨dT,iT,a1,a2,a3⟩:=cU hT
  injection a3 with a3
  cases dT <;> simp [iU] at a3
  split at h
  ·rename_i s
   cases vmx with
   |some _=>exact hmx.elim
   |none=>
   split at h
   ·rename_i l hh nX WA
    obtain⟨h0,h1,h2,h⟩:=h
    have e1:=dF hx
    subst e1
    refine⟨_,_,?_,pA _,h⟩
    unfold Instr.sliceAt
    simp only[Sem.run_bind,bI a1,Result.andThen,Instr.slice,Option.isSome_none,jT,fE,vS (P:=P) (w:=w) (isSl:=false) (len:=s.size) (cap:=s.size) (low nX) (QT WA) h0 h1 h2,Sem.run_pure]
   ·exact h.elim
  ·exact h.elim
 ·rename_i n e _ _ _ hT
  obtain⟨dT,iT,a1,a2,a3⟩:=cU hT
  injection a3 with a3
  cases dT <;> simp [iU] at a3
  rename_i n' e'
  obtain⟨a3,a4⟩:=a3
  subst n' e'
  split at h
  ·rename_i E cs hE
   cases vmx with
   |some _=>exact hmx.elim
   |none=>
   split at h
   ·rename_i l hh nX WA
    split at h
    ·rename_i hE1
     obtain⟨hn,h0,h1,h2,h⟩:=h
     simp only[D.is] at hx
     obtain⟨b,o,rfl,h3,h4,h5⟩:=hx
     have eB:(((cs.take hh.toNat).drop l.toNat).map fun c=>[c]).length=hh.toNat - l.toNat:=by rw[bK,kG,dJ];omega
     refine⟨.slice (some (if n=l.toNat then ⟨b,o,none⟩ else (⟨b,o,none⟩:Addr).add (l.toNat * E.size))) (hh.toNat - l.toNat) (n - l.toNat),_,?_,?_,h⟩
     ·unfold Instr.sliceAt
      simp only[Sem.run_bind,bI a1,Result.andThen,Instr.sureAddr,Sem.run_pure,vS (P:=P) (w:=w) (isSl:=false) (len:=n) (cap:=n) (low nX) (QT WA) h0 h1 h2,eU hE]
     ·simp only[D.is]
      refine⟨_,_,by rw[eB],by rw[eB];omega,?_⟩
      by_cases B2:n=l.toNat
      ·left
       apply gP
       rw[eB];omega
      ·right
       rw[aD B2,hE1,rO]
       exact⟨b,o+l.toNat,by rw[Addr.add_lit],h3,h4,FT (j8 (vG h5 _) _)⟩
    ·rename_i hE1
     obtain⟨hn,h0,h1,h2,h⟩:=h
     simp only[D.is] at hx
     obtain⟨b,o,rfl,h3,h4,h5⟩:=hx
     have eB:=K5 E.size (hh.toNat - l.toNat) (cs.drop (l.toNat * E.size))
     refine⟨.slice (some (if n=l.toNat then ⟨b,o,none⟩ else (⟨b,o,none⟩:Addr).add (l.toNat * E.size))) (hh.toNat - l.toNat) (n - l.toNat),_,?_,?_,h⟩
     ·unfold Instr.sliceAt
      simp only[Sem.run_bind,bI a1,Result.andThen,Instr.sureAddr,Sem.run_pure,vS (P:=P) (w:=w) (isSl:=false) (len:=n) (cap:=n) (low nX) (QT WA) h0 h1 h2,eU hE]
     ·simp only[D.is]
      refine⟨_,_,by rw[eB],by rw[eB];omega,?_⟩
      by_cases B2:n=l.toNat
      ·left
       apply gP
       rw[eB];omega
      ·right
       rw[aD B2]
       refine⟨b,o+l.toNat * E.size,by rw[Addr.add_lit],h3,h4,C7 (j8 h5 _) ?_⟩
       rw[kG]
       have e1:(hh.toNat - l.toNat) * E.size=hh.toNat * E.size - l.toNat * E.size:=Nat.sub_mul _ _ _
       have e2:hh.toNat * E.size<=n * E.size:=jP _ (by omega)
       omega
   ·exact h.elim
  ·exact h.elim
 ·exact h.elim
def TD.lZ:TD->Bool
 | .int _=>false
 |_=>true
def jZ (H:aA) (sz:Nat) (x:D) (K:List (List D)->Prop):Prop:=
 match x with
 | .val (.string s)=>sz=1/\K (s.data.toList.map bD)
 |x=>kU H sz x K
theorem sB {w:World} {S:Nat->Prop}:∀(l:List UInt8),aU w S (l.map bD).flatten (l.map fun b=>.int .u8 (b.toNat:Int))
 |[]=>by simp [aU]
 |c::l=>by
  simp only[fT,v8,bD,List.singleton_append,aU,D.is]
  exact⟨_,_,rfl,rfl,rfl,sB l⟩
theorem I0 {P:Program} {H:aA} {w:World} (hH:fQ w H) {sz:Nat} {x:D} {v:Value} {K:List (List D)->Prop} (h:jZ H sz x K) (hx:D.is w H.others x v):
  ∃els us,K els/\(∀e∈els,e.length=sz)/\aU w H.others els.flatten us/\us.length=els.length * sz/\(∀W,(Builtin.lenOf v).run P W=.ok els.length W)/\∀W:World,W.heap=w.heap->(Builtin.firstCells sz els.length v).run P W=.ok ⟨us⟩ W:=by
 unfold jZ at h
 split at h
 ·rename_i s
  obtain⟨rfl,h⟩:=h
  have e:=dF hx
  subst e
  have lE:s.size=s.data.toList.length:=jS.symm
  refine⟨_,s.data.toList.map fun b=>.int .u8 (b.toNat:Int),h,fun e he=>?_,sB _,by rw[bK,bK,rO],fun W=>?_,fun W _=>?_⟩
  ·obtain⟨c,_,rfl⟩:=mT.1 he;rfl
  ·rw[bK,<-lE];rfl
  ·have hl:(List.map bD s.data.toList).length=s.size:=by rw[bK];exact lE.symm
   rw[hl]
   simp only[Builtin.firstCells,Sem.run_pure]
   congr 1
   apply kY
   simp only[Array.toList_map]
   rw[show(s.extract 0 s.size)=s from ByteArray.ext (by rw[G9];exact Array.extract_size)]
 ·obtain⟨els,A,c,hk,rfl,aR,xY⟩:=uO hH h hx
  rcases xY with rfl|⟨b,o,rfl,hb,hr⟩
  ·refine⟨[],[],hk,by simp,by simp [aU],by simp,fun W=>rfl,fun W _=>?_⟩
   cases A with
   |none=>rfl
   |some a=>simp only[Builtin.firstCells,mS,zZ];rfl
  ·obtain⟨us,h1,h2,h3⟩:=qF hr
   refine⟨els,us,hk,oI hr,h1,h2,fun W=>rfl,fun W hW=>?_⟩
   simp only[Builtin.firstCells]
   rw[<-h2]
   have:=run_loadCells_list (P:=P) W ⟨b,o,none⟩ us (fun j v hj=>by
    rw[Addr.add_lit,<-h3 j v hj]
    simp only[World.cell?,hW])
   rw[this]
theorem JB {P:Program} {w:World} {t xt ty e:TypeId} {dx:TypeDesc} {E:Ti} (ht:P.underlying t=some (.slice e)) (hxt:P.underlying xt=some dx) (hni:(iU dx).lZ=true)
  (hE:aS P e=some E) (a:Addr) (n c m:Nat) (x:Value) (us:List Value) (eB:∀W,(Builtin.lenOf x).run P W=.ok m W) (uC:∀W:World,W.heap=w.heap->(Builtin.firstCells E.size m x).run P W=.ok ⟨us⟩ W)
  (aR:n+m<=c) (w':World) (o9:(storeCells (a.add (n * E.size)) us).run P w=.ok () w'):(Builtin.append_ #[t,xt] ty #[.slice (some a) n c,x]).run P w=.ok (.slice (some a) (n+m) c) w':=by
 unfold Builtin.append_
 cases dx <;> first
  |(cases hni;done)
  |(simp only[sU,l7,uF,Sem.run_bind,bI ht,bI hxt,Result.andThen,eU hE,jT,fE,eB w,Sem.run_pure,tQ,fU,false_or,aH aR,uC w rfl,o9])
theorem oJ {P : Program} {w : World} {t xt ty e : TypeId} {dx : TypeDesc} {E : Ti} {zs : List Value} (ht : P.underlying t = some (.slice e)) (hxt : P.underlying xt = some dx) (hni : (iU dx).lZ = true)
    (hE : aS P e = some E) (hz : E.zero = some zs) (A : Option Addr) (n c m : Nat) (x : Value) (us BT : List Value) (eB : ∀ W, (Builtin.lenOf x).run P W = .ok m W) (uC : ∀ W : World, W.heap = w.heap -> (Builtin.firstCells E.size m x).run P W = .ok ⟨us⟩ W)
    (hold : ∀ W : World, W.heap = w.heap -> (Builtin.firstCells E.size n (.slice A n c)).run P W = .ok ⟨BT⟩ W) (uR : E.bytes ≠ 0) (hb : (n + m) * E.bytes <= 140737488355328) :
    (n + m <= c -> ∀ w', (match A with | some a => storeCells (a.add (n * E.size)) us | none => pure () : Sem Unit).run P w = .ok () w' -> (Builtin.append_ #[t, xt] ty #[.slice A n c, x]).run P w = .ok (.slice A (n + m) c) w') /\
    (c < n + m -> ∃ cap dD, n + m <= cap /\ (Builtin.append_ #[t, xt] ty #[.slice A n c, x]).run P w = .ok (.slice (some ⟨w.heap.size, 0, none⟩) (n + m) cap) (w.drew.alloc (Obj.cells ⟨BT ++ us ++ dD⟩ e)) /\ dD.length = (cap - (n + m)) * zs.length) := by
  obtain ⟨i, b1, b2, b3, b4, b5⟩ := nD hE w
  have KZ : ∀ W, (typeInfo e).run P W = .ok i W := fun W => by
    obtain ⟨i', c1, _, _, _, c5⟩ := nD hE W
    rw [b5] at c5
    injection c5 with c5
    subst c5
    exact c1
  constructor
  · intro aR w' o9
    unfold Builtin.append_
    cases dx <;> first
      | (cases hni; done)
      | (simp only [sU, l7, uF, Sem.run_bind, bI ht, bI hxt, Result.andThen, eU hE, jT, fE, eB w, Sem.run_pure, tQ, fU, false_or, aH aR, uC w rfl]
         cases A with
         | none =>
           simp only [Sem.run_pure] at o9 ⊢
           injection o9 with _ o9
           subst o9
           rfl
         | some a =>
           simp only at o9 ⊢
           simp only [Sem.run_bind, o9, Result.andThen, Sem.run_pure])
  · intro gL
    have WE : ¬ (n + m <= c) := by omega
    have hn1 : ¬ (((n + m : Nat) : Int) > IntKind.i64.max /\ i.bytes = 0) := by
      rintro ⟨h1, h2⟩
      exact uR (b3.trans h2)
    have AO := growslice_fits gL hb
    have hn2 : ¬ (Builtin.nextslicecap (n + m) c * i.bytes > 2 ^ 48) := by rw [<- b3]; omega
    obtain ⟨cap, QN⟩ : ∃ cap, cap = (Question.appendCap (n + m) c e).cut (w.tape w.drawn (.appendCap (n + m) c e)) := ⟨_, rfl⟩
    have EC : n + m <= cap := by rw [QN]; simp [Question.cut]
    have CQ : (choose (.appendCap (n + m) c e)).run P w = .ok cap w.drew := by
      rw [QN]
      simp only [choose, Sem.run, Question.forced]
      rfl
    have aBZ : ∀ k W, (askRoom k).run P W = .ok () W := fun k W => by
      unfold askRoom
      split <;> rfl
    obtain ⟨z, KJ, UA⟩ := qG hE hz w.drew
    refine ⟨cap, (Builtin.zeroCells z.cells (cap - (n + m))).toList, EC, ?_, by simp [Builtin.zeroCells, <- UA]⟩
    have aG4 : (⟨BT⟩ : Array Value) ++ ⟨us⟩ ++ Builtin.zeroCells z.cells (cap - (n + m)) = ⟨BT ++ us ++ (Builtin.zeroCells z.cells (cap - (n + m))).toList⟩ := kY (by simp)
    unfold Builtin.append_
    cases dx <;> first
      | (cases hni; done)
      | (simp only [sU, l7, uF, Sem.run_bind, bI ht, bI hxt, Result.andThen, eU hE, jT, fE, eB w, Sem.run_pure, tQ, fU, false_or, aD WE, KZ, aD hn1, aD hn2, CQ, aBZ, hold w.drew rfl, uC w.drew rfl, KJ, newRow, newObj, Sem.run]
         rw [aG4]
         rfl)
def VF (P:Program) (H:aA) (t xt:TypeId) (s x:D) (K:D->aA->Prop):Prop:=
 match aS P t,aS P xt with
 |some ⟨.slice e,_,_,_⟩,some X=>X.d.lZ=true/\(match aS P e with
  |some ⟨_,sz,sY,some zs⟩=>zs.length=sz/\sY≠0/\jZ H sz x fun els=>(match s with
   | .val (.slice none 0 0)=>els.length * sY<=140737488355328/\(els=[]->K (.val (.slice none 0 0)) H)/\(els≠[]->∀b,H b=none->K (.os b 0 sz 0 els.length) (H.bH b (.row e 0 sz els)))
   | .ND=>els.length * sY<=140737488355328/\(els=[]->K .ND H)/\(els≠[]->∀b,H b=none->K (.os b 0 sz 0 els.length) (H.bH b (.row e 0 sz els)))
   | .os b o wT k n=>wT=sz/\(n+els.length) * sY<=140737488355328/\(match H b with
    |some (.row ty o' lH gO)=>ty=e/\o'=o/\lH=sz/\k+n<=gO.length/\∀b' o',(H.del b) b'=none->K (.os b' o' sz 0 (n+els.length)) ((H.del b).bH b' (.row e o' sz ((gO.drop k).take n++els)))
    |_=>False)
   | .val (.slice (some ⟨b,o,none⟩) n c)=>n+els.length<=c/\(match H b with
    |some (.row ty o' lH gO)=>o'=o/\lH=sz/\c<=gO.length/\K (.val (.slice (some ⟨b,o,none⟩) (n+els.length) c)) (H.bH b (.row ty o sz (gO.take n++els++gO.drop (n+els.length))))
    |_=>False)
   |_=>False)
  |_=>False)
 |_,_=>False
theorem aA.VQ (H:aA) (b:Nat) (x:gB):(H.del b).bH b x=H.bH b x:=funext fun c=>by
 by_cases h:c=b
 ·subst h;rw[aQ,aQ]
 ·rw[aP h,aP h,bP h]
theorem aA.aG2 (H:aA) (b:Nat):(H.del b).le H:=fun c x h=>by
 by_cases e:c=b
 ·subst e;rw[sX] at h;cases h
 ·rw[bP e] at h;exact h
abbrev wK:=@aA.aG2
theorem pQ (H:aA) (w:World):Ev H w H w.drew:=⟨rfl,rfl,rfl,fA _,fun _ _ h=>⟨rfl,h⟩,fun _ _ _ fr h=>⟨_,fr,h,rfl⟩⟩
theorem fQ.drew {H:aA} {w:World} (h:fQ w H):fQ w.drew H:=fun b x hb=>(pQ H w).rC rfl (h b x hb)
theorem I9 {H:aA} {w:World} (hH:fQ w H) (t:TypeId) (sz:Nat) (els:List (List D)) (vs us:List Value) (hv:aU w H.others els.flatten vs) (lE:∀el∈els,el.length=sz) (eB:vs.length=els.length * sz):
  fQ (w.alloc (Obj.cells ⟨vs++us⟩ t)) (H.bH w.heap.size (.row t 0 sz els)):=by
 refine hH.alloc ⟨⟨vs++us⟩,(0,0),heap_alloc_new w _,LB _,by simp;omega,?_⟩
 refine rK lE (bV (iO _ _ hH).kept _ hv) fun j v hj=>?_
 rw[cell_of_row _ _ _ _ _ _ (heap_alloc_new w _),iZ]
 have gL:=(kD.1 hj).1
 simp only[sU]
 rw[nS gL]
 exact hj
theorem W4 {P:Program} {H:aA} {w:World} (hH:fQ w H) {S:Sem Value} {ty:TypeId} {sz n k b o' c zl:Nat} {A:Option Addr} {els gO:List (List D)} {us:List Value} {K:D->aA->Prop}
  (QF:H b=some (.row ty o' sz gO)) (aR:k+n<=gO.length) (FJ:zl=sz)
  (h:∀b' o',(H.del b) b'=none->K (.os b' o' sz 0 (n+els.length)) ((H.del b).bH b' (.row ty o' sz ((gO.drop k).take n++els))))
  (hnc:n<=c) (hA:c=0\/(A=some ⟨b,o'+k * sz,none⟩/\∃cs t fr,w.heap[b]?=some (Obj.cells cs t fr)/\o'+(k+c) * sz<=cs.size))
  (lE:∀e∈els,e.length=sz) (hus:aU w H.others els.flatten us) (GA:us.length=els.length * sz)
  (aXj:∀BT:List Value,(∀W:World,W.heap=w.heap->(Builtin.firstCells sz n (.slice A n c)).run P W=.ok ⟨BT⟩ W)->
   (n+els.length<=c->∀w',(match A with|some a=>storeCells (a.add (n * sz)) us|none=>pure ():Sem Unit).run P w=.ok () w'->S.run P w=.ok (.slice A (n+els.length) c) w')/\
   (c<n+els.length->∃cap dD,n+els.length<=cap/\S.run P w=.ok (.slice (some ⟨w.heap.size,0,none⟩) (n+els.length) cap) (w.drew.alloc (Obj.cells ⟨BT++us++dD⟩ ty))/\dD.length=(cap - (n+els.length)) * zl)):
  ∃r d' w' H',S.run P w=.ok r w'/\D.is w' H'.others d' r/\fQ w' H'/\Ev H w H' w'/\K d' H':=by
 obtain⟨cs,fr,g1,g2,g3,g4⟩:=hH _ _ QF
 have aBk:=n3 (qE g4 k) n
 have CS:((gO.drop k).take n).length=n:=by rw[dJ,kG];omega
 obtain⟨BT,o1,o2,o3⟩:=qF aBk
 rw[CS] at o2
 have hold:∀W:World,W.heap=w.heap->(Builtin.firstCells sz n (.slice A n c)).run P W=.ok ⟨BT⟩ W:=fun W hW=>by
  rcases hA with hA|⟨rfl,_⟩
  ·obtain rfl:n=0:=by omega
   have:BT=[]:=gP (by simpa using o2)
   subst this
   cases A <;> simp [Builtin.firstCells,loadCells,loadCellsFrom]
  ·simp only[Builtin.firstCells]
   rw[<-o2]
   exact run_loadCells_list (P:=P) W ⟨b,o'+k * sz,none⟩ BT (fun j v hj=>by
    rw[Addr.add_lit,<-o3 j v hj]
    simp only[World.cell?,hW])
 obtain⟨r1,r2⟩:=aXj BT hold
 by_cases AO:n+els.length<=c
 ·
  have eE:=h b (o'+k * sz) (sX H b)
  rw[aA.VQ] at eE
  have aIq:k * sz+n * sz<=gO.length * sz:=by rw[<-eK];exact jP _ aR
  rcases hA with hA|⟨rfl,cs1,t1,fr1,f1,f2⟩
  ·obtain rfl:n=0:=by omega
   have AM:els=[]:=gP (by omega)
   subst AM
   have aHH:us=[]:=gP (by simpa using GA)
   subst aHH
   have iP:Ev H w (H.bH b (.row ty (o'+k * sz) sz ((gO.drop k).take 0++[]))) w:=mV (by rw[QF];simp) rfl rfl rfl rfl (fun _ _=>rfl) (fun cs0 t0 fr0 h0=>⟨cs0,fr0,h0,rfl⟩)
   refine⟨_,_,w,_,r1 AO w (by cases A <;> rfl),?_,kS hH iP (fun _ _=>rfl) ⟨cs,fr,g1,g2,?_,?_⟩,iP,eE⟩
   ·simp only[D.is]
    exact⟨A,c,rfl,by omega,.inl hA⟩
   ·simp;omega
   ·simp only[pL,kX,dC]
  ·rw[g1] at f1
   injection f1 with f1
   injection f1 with x1 x2 x3
   subst x1 x2 x3
   have hfz:o'+k * sz+n * sz+0+us.length<=cs.size:=by
    rw[GA]
    have:(k+(n+els.length)) * sz<=(k+c) * sz:=jP _ (by omega)
    rw[eK,eK] at this
    omega
   obtain⟨w',uW,e1,e2,e3,e4,ho,sZ,q1,q2,q3,q4⟩:=gK (P:=P) b ty fr us (o'+k * sz+n * sz) 0 w cs g1 g2 hfz (oC hus)
   have iP:Ev H w (H.bH b (.row ty (o'+k * sz) sz ((gO.drop k).take n++els))) w':=mV (by rw[QF];simp) e1 e2 e3 e4 ho (fun cs0 t0 fr0 h0=>by
    rw[g1] at h0
    injection h0 with h0
    injection h0 with x1 x2 x3
    subst x1 x2 x3
    exact⟨sZ,_,q1,q2⟩)
   refine⟨_,_,w',_,r1 AO w' (by simp only[Addr.add_lit];exact uW),?_,kS hH iP ho ⟨sZ,fr,q1,by rw[q2];exact g2,?_,?_⟩,iP,eE⟩
   ·simp only[D.is]
    refine⟨_,c,rfl,AO,.inr ⟨by simp,sZ,ty,fr,q1,?_⟩⟩
    rw[q2,iZ]
    have:(k+c) * sz=k * sz+c * sz:=eK _ _ _
    omega
   ·rw[q2,bJ,CS,eK,<-GA]
    omega
   ·have AW:∀j,w'.cell? ⟨b,j,none⟩=sZ[j]?:=fun j=>cell_of_row w' b j sZ ty fr q1
    have xW:∀j,w.cell? ⟨b,j,none⟩=cs[j]?:=fun j=>cell_of_row w b j cs ty fr g1
    refine rK (vs:=BT++us) ?_ ?_ ?_
    ·intro el FE
     rcases cS.1 FE with h1|h1
     ·exact oI aBk el h1
     ·exact lE el h1
    ·rw[HB]
     exact dS (bV iP.kept _ o1) (bV iP.kept _ hus)
    ·intro j v hj
     rcases jW j BT.length with gL|EC
     ·rw[nS gL] at hj
      rw[AW,q4 _ (by omega),<-xW]
      exact o3 j v hj
     ·rw[qX EC] at hj
      rw[AW,show o'+k * sz+j=o'+k * sz+n * sz+0+(j - BT.length) by omega]
      exact q3 _ v hj
 ·
  obtain⟨cap,dD,h3,h4,h5⟩:=r2 (by omega)
  have iW:fQ w.drew (H.del b):=hH.drew.less (wK H b)
  have hn:(H.del b) w.heap.size=none:=by
   have:=gZ hH
   rw[bP]
   ·exact this
   ·have:=hH.lt QF
    omega
  have F8:HL H.others (H.del b).others w w.drew:=(pQ H w).less (wK H b) |>.kept
  refine⟨_,_,_,_,h4,?_,?_,((pQ H w).less (wK H b)).trans (iO _ _ iW),h w.heap.size 0 hn⟩
  ·simp only[D.is]
   refine⟨_,_,rfl,h3,.inr ⟨by simp,_,ty,(0,0),heap_alloc_new w.drew _,?_⟩⟩
   simp only[HG,bJ,h5,GA,FJ,o2]
   rw[<-eK,<-eK]
   simp only[iZ]
   exact jP _ (by omega)
  ·have:=I9 (w:=w.drew) iW ty sz ((gO.drop k).take n++els) (BT++us) dD (by rw[HB];exact dS (bV F8 _ o1) (bV F8 _ hus)) (by
     intro el FE
     rcases cS.1 FE with h1|h1
     ·exact oI aBk el h1
     ·exact lE el h1) (by rw[bJ,bJ,CS,o2,GA,eK])
   simpa using this
theorem aEj {P:Program} {H:aA} {w:World} (hH:fQ w H) {t xt ty:TypeId} {s x:D} {v u:Value} {K:D->aA->Prop} (h:VF P H t xt s x K) (hs:D.is w H.others s v) (hx:D.is w H.others x u):
  ∃r d' w' H',(Builtin.append_ #[t,xt] ty #[v,u]).run P w=.ok r w'/\D.is w' H'.others d' r/\fQ w' H'/\Ev H w H' w'/\K d' H':=by
 unfold VF at h
 split at h
 ·rename_i e _ _ _ X hT hX
  obtain⟨hni,h⟩:=h
  split at h
  ·rename_i dE sz sY zs hE
   obtain⟨FJ,uR,h⟩:=h
   obtain⟨d,i,a1,a2,a3⟩:=cU hT
   injection a3 with a3
   cases d <;> simp [iU] at a3
   subst a3
   obtain⟨dx,ix,c1,c2,rfl⟩:=cU hX
   obtain⟨els,us,h,lE,hus,GA,eB,uC⟩:=I0 (P:=P) hH h hx
   have aF2:∀(A:Option Addr),els.length * sY<=140737488355328->els≠[]->K (.os w.heap.size 0 sz 0 els.length) (H.bH w.heap.size (.row e 0 sz els))->
     ∃r d' w' H',(Builtin.append_ #[t,xt] ty #[.slice A 0 0,u]).run P w=.ok r w'/\D.is w' H'.others d' r/\fQ w' H'/\Ev H w H' w'/\K d' H':=by
    intro A hb fP hk
    obtain⟨_,h2⟩:=oJ (P:=P) (w:=w) (ty:=ty) a1 c1 hni hE rfl A 0 0 els.length u us [] eB uC (fun W _=>by cases A <;> simp [Builtin.firstCells,loadCells,loadCellsFrom]) uR (by simpa using hb)
    have ZF:0<els.length:=by
     rcases els with _|⟨_,_⟩
     ·exact absurd rfl fP
     ·simp
    obtain⟨cap,dD,h3,h4,h5⟩:=h2 (by omega)
    rw[iZ] at h4 h3
    refine⟨_,_,_,_,h4,?_,?_,(pQ H w).trans (iO _ _ hH.drew),hk⟩
    ·simp only[D.is]
     refine⟨_,_,rfl,h3,.inr ⟨by simp,_,e,(0,0),heap_alloc_new w.drew _,?_⟩⟩
     simp only[HG,bJ,mS,iZ,h5,GA,FJ]
     rw[<-eK]
     exact jP _ (by omega)
    ·have:=I9 (w:=w.drew) hH.drew e sz els us dD (bV (pQ H w).kept _ hus) lE GA
     simpa using this
   split at h
   ·obtain⟨hb,h1,h2⟩:=h
    have e1:=dF hs
    subst e1
    by_cases fP:els=[]
    ·subst fP
     obtain⟨h3,_⟩:=oJ (P:=P) (w:=w) (ty:=ty) a1 c1 hni hE rfl none 0 0 0 u us [] eB uC (fun W _=>rfl) uR (by simp)
     exact⟨_,_,w,H,h3 (by omega) w rfl,pA _,hH,gC _ _,h1 rfl⟩
    ·exact aF2 none hb fP (h2 fP _ (gZ hH))
   ·obtain⟨hb,h1,h2⟩:=h
    simp only[D.is] at hs
    obtain⟨A,rfl⟩:=hs
    by_cases fP:els=[]
    ·subst fP
     have aHH:us=[]:=gP (by simpa using GA)
     subst aHH
     obtain⟨h3,_⟩:=oJ (P:=P) (w:=w) (ty:=ty) a1 c1 hni hE rfl A 0 0 0 u [] [] eB uC (fun W _=>by cases A <;> simp [Builtin.firstCells,loadCells,loadCellsFrom]) uR (by simp)
     exact⟨_,_,w,H,h3 (by omega) w (by cases A <;> rfl),by simp only[D.is];exact⟨A,rfl⟩,hH,gC _ _,h1 rfl⟩
    ·exact aF2 A hb fP (h2 fP _ (gZ hH))
   ·rename_i b o wT k n _
    obtain⟨rfl,hb,h⟩:=h
    split at h
    ·rename_i XH o' lH gO QF
     obtain⟨rfl,rfl,rfl,aR,h⟩:=h
     simp only[D.is] at hs
     obtain⟨A,c,rfl,hnc,hA⟩:=hs
     exact W4 hH (ty:=XH) QF aR FJ h hnc hA lE hus GA fun BT hold=>oJ (P:=P) (w:=w) (ty:=ty) a1 c1 hni hE rfl A n c els.length u us BT eB uC hold uR hb
    ·exact h.elim
   ·rename_i b o n c _
    obtain⟨AO,h⟩:=h
    have e1:=dF hs
    subst e1
    split at h
    ·rename_i XH o' lH gO QF
     obtain⟨rfl,rfl,B2,hk⟩:=h
     obtain⟨cs,fr,g1,g2,g3,g4⟩:=hH _ _ QF
     obtain⟨aCL,o1,o2,o3⟩:=qF (n3 g4 n)
     obtain⟨aXv,p1,p2,p3⟩:=qF (qE g4 (n+els.length))
     have EE:(gO.take n).length=n:=by rw[dJ];omega
     rw[EE] at o2
     rw[kG] at p2
     have aB2:∀q,q<=gO.length->o'+q * lH<=cs.size:=fun q hq=>by
      have:q * lH<=gO.length * lH:=jP _ hq
      omega
     have hfz:o'+n * lH+0+us.length<=cs.size:=by
      have:=aB2 (n+els.length) (by omega)
      rw[GA]
      rw[eK] at this
      omega
     obtain⟨w',uW,e1,e2,e3,e4,ho,sZ,q1,q2,q3,q4⟩:=gK (P:=P) b XH fr us (o'+n * lH) 0 w cs g1 g2 hfz (oC hus)
     have iP:Ev H w (H.bH b (.row XH o' lH (gO.take n++els++gO.drop (n+els.length)))) w':=mV (by rw[QF];simp) e1 e2 e3 e4 ho (fun cs0 t0 fr0 h0=>by
      rw[g1] at h0
      injection h0 with h0
      injection h0 with x1 x2 x3
      subst x1 x2 x3
      exact⟨sZ,_,q1,q2⟩)
     refine⟨_,_,w',_,JB (ty:=ty) a1 c1 hni hE ⟨b,o',none⟩ n c els.length u us eB uC AO w' (by simp only[Addr.add_lit];exact uW),pA _,kS hH iP ho ⟨sZ,fr,q1,by rw[q2];exact g2,?_,?_⟩,iP,hk⟩
     ·rw[q2,bJ,bJ,EE,kG,show n+els.length+(gO.length - (n+els.length))=gO.length by omega]
      exact aB2 _ (fA _)
     ·have AW:∀j,w'.cell? ⟨b,j,none⟩=sZ[j]?:=fun j=>cell_of_row w' b j sZ XH fr q1
      have xW:∀j,w.cell? ⟨b,j,none⟩=cs[j]?:=fun j=>cell_of_row w b j cs XH fr g1
      refine rK (vs:=aCL++us++aXv) ?_ ?_ ?_
      ·intro el FE
       rcases cS.1 FE with h1|h1
       ·rcases cS.1 h1 with h1|h1
        ·exact oI (n3 g4 n) el h1
        ·exact lE el h1
       ·exact oI (qE g4 _) el h1
      ·rw[HB,HB]
       exact dS (dS (bV iP.kept _ o1) (bV iP.kept _ hus)) (bV iP.kept _ p1)
      ·intro j v hj
       rw[AW]
       rcases jW j (aCL++us).length with gL|EC
       ·rw[nS gL] at hj
        rcases jW j aCL.length with aX5|aXT
        ·rw[nS aX5] at hj
         rw[q4 _ (by omega),<-xW]
         exact o3 j v hj
        ·rw[qX aXT] at hj
         rw[show o'+j=o'+n * lH+0+(j - aCL.length) by omega]
         exact q3 _ v hj
       ·rw[qX EC] at hj
        rw[bJ] at EC hj
        have FH:(n+els.length) * lH=n * lH+els.length * lH:=eK _ _ _
        rw[q4 _ (by omega),<-xW,show o'+j=o'+(n+els.length) * lH+(j - (aCL.length+us.length)) by omega]
        exact p3 _ v hj
    ·exact h.elim
   ·exact h.elim
  ·exact h.elim
 ·exact h.elim
end Go.Proofs.YtelbfbioomcmeaaGreatDoor
namespace Go.Proofs.YtelbfbioomcmeaaGreatDoor
open Go.Maps (Keyed)
open Go.RowKit
noncomputable def mQ:List (Value×D)->Value->Option D
 |[],_=>none
 |p::m,x=>open Classical in if p.1=x then some p.2 else mQ m x
noncomputable def gI:List (Value×D)->Value->D->List (Value×D)
 |[],x,d=>[(x,d)]
 |p::m,x,d=>open Classical in if p.1=x then (x,d)::m else p::gI m x d
theorem lY (x:Value):mQ [] x=none:=rfl
theorem lX:∀(m:List (Value×D)) (x:Value) (d:D),mQ (gI m x d) x=some d
 |[],x,d=>by simp [gI,mQ]
 |p::m,x,d=>by
  simp only[gI]
  split
  ·simp [mQ]
  ·rename_i h
   simp only[mQ,aD h]
   exact lX m x d
theorem rI:∀(m:List (Value×D)) {x y:Value} (d:D),x≠y->mQ (gI m x d) y=mQ m y
 |[],x,y,d,h=>by simp [gI,mQ,h]
 |p::m,x,y,d,h=>by
  simp only[gI]
  split
  ·rename_i h2
   simp only[mQ,aD h]
   rw[aD (by rw[h2];exact h)]
  ·simp only[mQ]
   split
   ·rfl
   ·exact rI m d h
theorem LQ:∀(m:List (Value×D)) (x:Value) (d:D),(gI m x d).map (·.1)=m.map (·.1)/\x∈m.map (·.1)\/(gI m x d).map (·.1)=m.map (·.1)++[x]/\x∉m.map (·.1)
 |[],x,d=>.inr ⟨by simp [gI],by simp⟩
 |p::m,x,d=>by
  simp only[gI]
  split
  ·rename_i h
   exact .inl ⟨by simp [h],by simp [h]⟩
  ·rename_i h
   rcases LQ m x d with⟨h1,h2⟩|⟨h1,h2⟩
   ·exact .inl ⟨by simp only[fT,h1],jR _ h2⟩
   ·refine .inr ⟨by simp only[fT,h1,eT],fun h3=>?_⟩
    rcases eG.1 h3 with h3|h3
    ·exact h h3.symm
    ·exact h2 h3
theorem UL {m:List (Value×D)} (x:Value) (d:D) (h:(m.map (·.1)).Nodup):((gI m x d).map (·.1)).Nodup:=by
 rcases LQ m x d with⟨h1,_⟩|⟨h1,h2⟩
 ·rw[h1];exact h
 ·rw[h1,List.nodup_append]
  refine⟨h,by simp,fun a ha b hb hab=>?_⟩
  simp only[eS] at hb
  rw[hb] at hab
  rw[hab] at ha
  exact h2 ha
def iR:List D->Option (List Value)
 |[]=>some []
 | .val v::ds=>(iR ds).map (v::·)
 |_=>none
def lW:D->Option Value
 | .val v=>some v
 | .agg cs=>(iR cs).map fun vs=>.agg ⟨vs⟩
 |_=>none
theorem KV {w:World} {S:Nat->Prop}:∀(cs:List D) (vs us:List Value),iR cs=some vs->aU w S cs us->us=vs
 |[],vs,us,h1,h2=>by
  simp only[aU] at h2
  simp only[iR,pJ] at h1
  rw[<-h1,h2]
 |c::cs,vs,us,h1,h2=>by
  simp only[aU] at h2
  obtain⟨u,DV,rfl,_,h3,h4⟩:=h2
  cases c with
  |val v=>
   simp only[iR,O1] at h1
   obtain⟨vs',h5,rfl⟩:=h1
   simp only[D.is] at h3
   rw[h3,KV cs vs' DV h5 h4]
  |_=>simp [iR] at h1
theorem LJ {w:World} {S:Nat->Prop} {d:D} {k v:Value} (h:lW d=some k) (hd:D.is w S d v):v=k:=by
 cases d with
 |val u=>
  simp only[lW,pJ] at h
  simp only[D.is] at hd
  rw[hd,h]
 |agg cs=>
  simp only[lW,O1] at h
  obtain⟨vs,h1,rfl⟩:=h
  simp only[D.is] at hd
  obtain⟨us,rfl,h2⟩:=hd
  rw[KV cs vs us h1 h2]
 |_=>simp [lW] at h
def aF (P:Program) (t:TypeId):Option Value:=(P.info? t).bind (·.zero)
theorem UX {P:Program} {t:TypeId} {z:Value} (h:aF P t=some z) (w:World):(zeroValue t).run P w=.ok z w:=by
 unfold aF at h
 obtain⟨i,h1,h2⟩:=Option.bind_eq_some_iff.1 h
 unfold zeroValue typeInfo program
 simp [Sem.run,h1,h2]
def kOK (P:Program) (kt:TypeId) (m:List (Value×D)) (x:Value):Prop:=Keyed P kt/\(∃l,keyOf P kt x=some l)/\∀p∈m,∃l,keyOf P kt p.1=some l
def LL (P:Program) (H:aA) (t:TypeId) (x ix:D) (ok:Bool) (K:D->Prop):Prop:=
 match aS P t,x,lW ix with
 |some ⟨.map kt et,_,_,_⟩,.val (.map (some b)),some kv=>(match H b,aF P et with
  |some (.map m),some z=>kOK P kt m kv/\(match mQ m kv with
   |some d=>K (if ok then .fV [d,.val (.bool true)] else d)
   |none=>K (if ok then .fV [.val z,.val (.bool false)] else .val z))
  |_,_=>False)
 |_,_,_=>False
def OB (P:Program) (H:aA) (t:TypeId) (x ix d:D) (K:aA->Prop):Prop:=
 match aS P t,x,lW ix with
 |some ⟨.map kt _,_,_,_⟩,.val (.map (some b)),some kv=>(match H b with
  |some (.map m)=>kOK P kt m kv/\K (H.bH b (.map (gI m kv d)))
  |_=>False)
 |_,_,_=>False
def ZV (H:aA) (K:D->aA->Prop):Prop:=∀b,H b=none->K (.val (.map (some b))) (H.bH b (.map []))
theorem aEy {P:Program} {H:aA} {w:World} (hH:fQ w H) {t:TypeId} {K:D->aA->Prop} (h:ZV H K):
  ∃r d' w' H',(Instr.makeMap t none).run P w=.ok r w'/\D.is w' H'.others d' r/\fQ w' H'/\Ev H w H' w'/\K d' H':=
 ⟨_,_,w.alloc (.map #[] 0),_,rfl,by simp only[D.is],hH.alloc (x:=.map []) ⟨#[],0,heap_alloc_new w _,rfl,by simp only[pM,aW],by simp,by simp [Stm]⟩,iO _ _ hH,h _ (gZ hH)⟩
theorem N6 {es:Array MapEntry} {m:List (Value×D)} (h:es.toList.map (·.key)=m.map (·.1)) {j:Nat} {e:MapEntry} (he:es.toList[j]?=some e):∃p,m[j]?=some p/\p.1=e.key:=by
 have h1:=cV (·[j]?) h
 simp only[cR,he,jV] at h1
 cases hm:m[j]? with
 |none=>rw[hm] at h1;cases h1
 |some p=>rw[hm] at h1;simp at h1;exact⟨p,rfl,h1.symm⟩
theorem LP:∀{m:List (Value×D)} {x:Value},(∀p∈m,p.1≠x)->mQ m x=none
 |[],x,_=>rfl
 |p::m,x,h=>by
  simp only[mQ,aD (h p wN)]
  exact LP fun q hq=>h q (jR _ hq)
theorem WW:∀{m:List (Value×D)} {j:Nat} {p:Value×D},(m.map (·.1)).Nodup->m[j]?=some p->mQ m p.1=some p.2
 |q::m,0,p,_,h=>by
  simp only[l7,pJ] at h
  subst h
  simp [mQ]
 |q::m,j+1,p,hn,h=>by
  simp only[uF] at h
  simp only[fT,HI] at hn
  have fP:q.1≠p.1:=fun e=>hn.1 (by rw[e];exact mT.2 ⟨p,jQ h,rfl⟩)
  simp only[mQ,aD fP]
  exact WW hn.2 h
theorem WX:∀{m:List (Value×D)} {j:Nat} {p:Value×D} {d:D},(m.map (·.1)).Nodup->m[j]?=some p->gI m p.1 d=m.set j (p.1,d)
 |q::m,0,p,d,_,h=>by
  simp only[l7,pJ] at h
  subst h
  simp [gI]
 |q::m,j+1,p,d,hn,h=>by
  simp only[uF] at h
  simp only[fT,HI] at hn
  have fP:q.1≠p.1:=fun e=>hn.1 (by rw[e];exact mT.2 ⟨p,jQ h,rfl⟩)
  simp only[gI,aD fP,List.set_cons_succ]
  rw[WX hn.2 h]
theorem RJ:∀{m:List (Value×D)} {x:Value} {d:D},(∀p∈m,p.1≠x)->gI m x d=m++[(x,d)]
 |[],x,d,_=>rfl
 |p::m,x,d,h=>by
  simp only[gI,aD (h p wN),eT]
  rw[RJ fun q hq=>h q (jR _ hq)]
theorem aFS {w:World} {S:Nat->Prop} {es:Array MapEntry} {m:List (Value×D)} (hv:aW w S (m.map (·.2)) (es.toList.map (·.val))) {j:Nat} {e:MapEntry} {p:Value×D} (he:es.toList[j]?=some e) (hp:m[j]?=some p):D.is w S p.2 e.val:=by
 obtain⟨v,h1,h2⟩:=l3 hv j p.2 (by rw[cR,hp] <;> rfl)
 rw[cR,he] at h1
 simp at h1
 rw[h1]
 exact h2
theorem aEw {P:Program} {H:aA} {w:World} (hH:fQ w H) {t:TypeId} {x ix:D} {v u:Value} {ok:Bool} {K:D->Prop} (h:LL P H t x ix ok K) (hx:D.is w H.others x v) (hi:D.is w H.others ix u):
  ∃r d,(Instr.lookup t v u ok).run P w=.ok r w/\D.is w H.others d r/\K d:=by
 unfold LL at h
 split at h
 ·rename_i kt et _ _ _ b kv hT hkv
  split at h
  ·rename_i m z hb hE
   obtain⟨⟨hKd,⟨lx,TZ⟩,aBc⟩,h⟩:=h
   have ev:=dF hx
   subst ev
   have eu:=LJ hkv hi
   subst eu
   obtain⟨d,i,a1,a2,a3⟩:=cU hT
   injection a3 with a3
   cases d <;> simp [iU] at a3
   obtain⟨rfl,rfl⟩:=a3
   obtain⟨es,kJ,h1,h2,h3,h4,h4s⟩:=hH _ _ hb
   have hes:∀e∈es.toList,∃l,keyOf P kt e.key=some l:=fun e he=>by
    obtain⟨j,hj⟩:=uG he
    obtain⟨p,hp,S4⟩:=N6 h2 hj
    rw[<-S4]
    exact aBc p (jQ hp)
   have BM:∀(P':Program),(getObj b).run P' w=.ok (.map es kJ) w:=fun P'=>by simp [getObj,Sem.run,h1]
   rcases hKd.find w TZ es.toList hes with⟨f1,f2⟩|⟨j,e,f1,f2,f3⟩
   ·have hn:mQ m u=none:=LP fun p hp=>by
     obtain⟨j,hj⟩:=uG hp
     have h5:=cV (·[j]?) h2
     simp only[cR,hj,jV] at h5
     cases he:es.toList[j]? with
     |none=>rw[he] at h5;cases h5
     |some e=>rw[he] at h5;simp at h5;rw[<-h5];exact f2 e (jQ he)
    rw[hn] at h
    simp only at h
    have KJ:=UX hE w
    have hzd:D.is w H.others (.val z) z:=by simp only[D.is]
    refine⟨if ok=true then .tuple #[z,.bool false] else z,_,?_,?_,h⟩
    ·simp only[Instr.lookup,Sem.run_bind,bI a1,Result.andThen,BM,hKd.check w _ TZ,f1,KJ,Sem.run_pure]
    ·cases ok
     ·exact hzd
     ·simp only[fU,D.is,aW]
      exact⟨_,rfl,_,_,rfl,hzd,_,_,rfl,rfl,rfl⟩
   ·obtain⟨p,hp,S4⟩:=N6 h2 f2
    have hg:mQ m u=some p.2:=by rw[<-f3,<-S4];exact WW h4 hp
    rw[hg] at h
    simp only at h
    have hv:=aFS h3 f2 hp
    refine⟨if ok=true then .tuple #[e.val,.bool true] else e.val,_,?_,?_,h⟩
    ·simp only[Instr.lookup,Sem.run_bind,bI a1,Result.andThen,BM,hKd.check w _ TZ,f1,Sem.run_pure]
    ·cases ok
     ·exact hv
     ·simp only[fU,D.is,aW]
      exact⟨_,rfl,_,_,rfl,hv,_,_,rfl,rfl,rfl⟩
  ·exact h.elim
 ·exact h.elim
theorem RI {es:Array MapEntry} {j:Nat} {e:MapEntry} {v:Value} (he:es.toList[j]?=some e):((es.modify j fun x=>{key:=e.key,val:=v,born:=x.born}).toList.map (·.key))=es.toList.map (·.key)/\((es.modify j fun x=>{key:=e.key,val:=v,born:=x.born}).toList.map (·.val))=(es.toList.map (·.val)).set j v:=by
 have hj:j<es.toList.length:=(kD.1 he).1
 constructor
 ·apply uH
  intro i
  simp only[Array.toList_modify,cR,List.getElem?_modify]
  by_cases h:j=i
  ·subst h;simp [he]
  ·simp [h]
 ·apply uH
  intro i
  simp only[Array.toList_modify,cR,List.getElem?_modify,HH]
  by_cases h:j=i
  ·subst h
   have hj':j<es.size:=by simpa using hj
   simp [he,hj']
  ·simp [h]
theorem RH {es:Array MapEntry} {j:Nat} {e:MapEntry} {k v:Value} (he:es.toList[j]?=some e):((es.modify j fun x=>{key:=k,val:=v,born:=x.born}).toList.map (·.born))=es.toList.map (·.born):=by
 apply uH
 intro i
 simp only[Array.toList_modify,cR,List.getElem?_modify]
 by_cases h:j=i
 ·subst h;simp [he]
 ·simp [h]
theorem DA {w:World} {S:Nat->Prop}:∀{ds:List D} {vs:List Value} {d:D} {v:Value},aW w S ds vs->D.is w S d v->aW w S (ds++[d]) (vs++[v])
 |[],vs,d,v,h,hd=>by
  simp only[aW] at h
  subst h
  simp only[fR,aW]
  exact⟨_,_,rfl,hd,rfl⟩
 |d0::ds,vs,d,v,h,hd=>by
  simp only[aW] at h
  obtain⟨u,us,rfl,h1,h2⟩:=h
  simp only[eT,aW]
  exact⟨_,_,rfl,h1,DA h2 hd⟩
theorem FW {w:World} {S:Nat->Prop}:∀{ds:List D} {vs:List Value} {j:Nat} {d:D} {v:Value},aW w S ds vs->D.is w S d v->aW w S (ds.set j d) (vs.set j v)
 |[],vs,j,d,v,h,_=>by
  simp only[aW] at h
  subst h
  simp [aW]
 |d0::ds,vs,0,d,v,h,hd=>by
  simp only[aW] at h
  obtain⟨u,us,rfl,_,h2⟩:=h
  simp only[List.set_cons_zero,aW]
  exact⟨_,_,rfl,hd,h2⟩
 |d0::ds,vs,j+1,d,v,h,hd=>by
  simp only[aW] at h
  obtain⟨u,us,rfl,h1,h2⟩:=h
  simp only[List.set_cons_succ,aW]
  exact⟨_,_,rfl,h1,FW h2 hd⟩
theorem XA {P:Program} {H:aA} {w:World} (hH:fQ w H) {t:TypeId} {x ix d:D} {v u z:Value} {K:aA->Prop} (h:OB P H t x ix d K) (hx:D.is w H.others x v) (hi:D.is w H.others ix u) (hd:D.is w H.others d z):
  ∃w' H',(Instr.mapUpdate t v u z).run P w=.ok () w'/\fQ w' H'/\Ev H w H' w'/\K H':=by
 unfold OB at h
 split at h
 ·rename_i kt et _ _ _ b kv hT hkv
  split at h
  ·rename_i m hb
   obtain⟨⟨hKd,⟨lx,TZ⟩,aBc⟩,h⟩:=h
   have ev:=dF hx
   subst ev
   have eu:=LJ hkv hi
   subst eu
   obtain⟨d1,i,a1,a2,a3⟩:=cU hT
   injection a3 with a3
   cases d1 <;> simp [iU] at a3
   obtain⟨rfl,rfl⟩:=a3
   obtain⟨es,kJ,h1,h2,h3,h4,h4s⟩:=hH _ _ hb
   have hes:∀e∈es.toList,∃l,keyOf P kt e.key=some l:=fun e he=>by
    obtain⟨j,hj⟩:=uG he
    obtain⟨p,hp,S4⟩:=N6 h2 hj
    rw[<-S4]
    exact aBc p (jQ hp)
   have BM:∀(P':Program),(getObj b).run P' w=.ok (.map es kJ) w:=fun P'=>by simp [getObj,Sem.run,h1]
   have AP:∀(o:Obj),(setObj b o).run P w=.ok () (w.putObj b o):=fun o=>by simp [setObj,Sem.run,h1,World.putObj]
   have fin:∀(es':Array MapEntry) (c':Nat),es'.toList.map (·.key)=(gI m u d).map (·.1)->(∀{w':World} {S:Nat->Prop},aW w' S (m.map (·.2)) (es.toList.map (·.val))->D.is w' S d z->aW w' S ((gI m u d).map (·.2)) (es'.toList.map (·.val)))->Stm (es'.toList.map (·.born)) c'->
     fQ (w.putObj b (.map es' c')) (H.bH b (.map (gI m u d)))/\Ev H w (H.bH b (.map (gI m u d))) (w.putObj b (.map es' c')):=by
    intro es' c' g1 g2 g3
    have aBj:∀c,c≠b->(w.putObj b (.map es' c')).heap[c]?=w.heap[c]?:=fun c hc=>by simp [World.putObj,Array.getElem?_setIfInBounds_ne (Ne.symm hc)]
    have hat:(w.putObj b (.map es' c')).heap[b]?=some (.map es' c'):=by
     have:=(nR.1 h1).1
     simp [World.putObj,this]
    have iP:Ev H w (H.bH b (.map (gI m u d))) (w.putObj b (.map es' c')):=mV (by rw[hb];simp) rfl rfl rfl (by simp [World.putObj]) aBj fun cs t fr h=>by
     rw[h1] at h
     cases h
    exact⟨kS hH iP aBj ⟨es',c',hat,g1,g2 (fZ iP.kept _ h3) (pN iP.kept _ hd),UL _ _ h4,g3⟩,iP⟩
   rcases hKd.find w TZ es.toList hes with⟨f1,f2⟩|⟨j,e,f1,f2,f3⟩
   ·have CU:gI m u d=m++[(u,d)]:=RJ fun p hp=>by
     obtain⟨j,hj⟩:=uG hp
     have h5:=cV (·[j]?) h2
     simp only[cR,hj,jV] at h5
     cases he:es.toList[j]? with
     |none=>rw[he] at h5;cases h5
     |some e=>rw[he] at h5;simp at h5;rw[<-h5];exact f2 e (jQ he)
    obtain⟨k1,k2⟩:=fin (es.push {key:=u,val:=z,born:=kJ}) (kJ+1) (by rw[CU];simp [h2]) (fun hv hz=>by
     rw[CU,fI,Array.toList_push,fI]
     exact DA hv hz) (by
     rw[Array.toList_push,fI]
     refine⟨fun b hb=>?_,?_⟩
     ·rcases cS.1 hb with hb|hb
      ·exact Nat.lt_succ_of_lt (h4s.1 b hb)
      ·simp only[fT,pM,eS] at hb
       omega
     ·rw[List.nodup_append]
      refine⟨h4s.2,by simp,fun a ha b hb e=>?_⟩
      simp only[fT,pM,eS] at hb
      have:=h4s.1 a ha
      omega)
    refine⟨_,_,?_,k1,k2,h⟩
    simp only[Instr.mapUpdate,Sem.run_bind,bI a1,Result.andThen,BM,hKd.check w _ TZ,f1,AP]
   ·obtain⟨p,hp,S4⟩:=N6 h2 f2
    have hpu:p.1=u:=S4.trans f3
    have CU:gI m u d=m.set j (u,d):=by rw[<-hpu];exact WX h4 hp
    have kR:j<m.length:=(kD.1 hp).1
    obtain⟨q1,q2⟩:=RI (v:=z) f2
    rw[f3] at q1 q2
    obtain⟨k1,k2⟩:=fin (es.modify j fun x=>{key:=u,val:=z,born:=x.born}) kJ (by
     rw[q1,h2,CU]
     apply uH
     intro i
     simp only[cR,HH]
     by_cases hi:j=i
     ·subst hi
      have hmj:m[j]=p:=(kD.1 hp).2
      simp [hmj,hpu,kR]
     ·simp [hi]) (fun hv hz=>by
     rw[q2,CU,List.map_set]
     exact FW hv hz) (by rw[RH f2];exact h4s)
    refine⟨_,_,?_,k1,k2,h⟩
    have JZ:es[j]?=some e:=by simpa using f2
    simp only[Instr.mapUpdate,Sem.run_bind,bI a1,Result.andThen,BM,hKd.check w _ TZ,f1,JZ,jV,wB,f3,hKd.stays w TZ,AP]
  ·exact h.elim
 ·exact h.elim
end Go.Proofs.YtelbfbioomcmeaaGreatDoor

