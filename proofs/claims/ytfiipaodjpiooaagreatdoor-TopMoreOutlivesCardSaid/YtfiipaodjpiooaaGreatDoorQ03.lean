/- Lemmas and contracts of functions, several texts in one. -/
import Derived.Test.YtfiipaodjpiooaaGreatDoorQ02
import Derived.Maps.Keyed
import Derived.RangeFuncRecord
set_option maxRecDepth 100000
set_option maxHeartbeats 4000000
set_option linter.all false
namespace Go.Proofs.YtfiipaodjpiooaaGreatDoor
open Go.RowKit
def YS (P:Program) (H:aC) (t:TypeId) (n c:D) (K:D->aC->Prop):Prop:=
 match n,c,bQ P t with
 | .val (.int _ l),.val (.int _ c),some ⟨.slice e,_,_,_⟩=>(match bQ P e with
  |some ⟨_,sz,uW,some zs⟩=>zs.length=sz/\zs.all Value.oneCell'=true/\0<=l/\l<=c/\(uW:Int) * c<=281474976710656/\c<=9223372036854775807/\
   ∀b,H b=none->K (.os b 0 sz 0 l.toNat) (H.bH b (.row e 0 sz (List.replicate l.toNat (zs.map .val))))
  |_=>False)
 |_,_,_=>False
theorem aLo {P:Program} {H:aC} {w:World} (hH:iK w H) {t:TypeId} {n c:D} {v u:Value} {K:D->aC->Prop} (h:YS P H t n c K) (hn:D.is w H.others n v) (hc:D.is w H.others c u):
  ∃r d' w' H',(Instr.makeSlice t v u).run P w=.ok r w'/\D.is w' H'.others d' r/\iK w' H'/\Ev H w H' w'/\K d' H':=by
 unfold YS at h
 split at h
 ·rename_i kl l kc cc e _ _ _ hT
  have e1:=dZ hn
  have e2:=dZ hc
  subst e1 e2
  split at h
  ·rename_i dE sz byE zs hE
   obtain⟨NH,aAe,h0,hlc,hb,h63,h⟩:=h
   obtain⟨d,i,a1,a2,a3⟩:=eE hT
   injection a3 with a3
   cases d <;> simp [lV] at a3
   subst a3
   obtain⟨i',b1,b2,b3,b4,b5⟩:=rH hE w
   simp only at b2 b3 b4
   cases hz:i'.zero with
   |none=>rw[hz] at b4;cases b4
   |some z=>
    rw[hz] at b4
    simp at b4
    have hr:=run_make (P:=P) w t e i' z a1 b5 hz kl kc l cc h0 hlc (by rw[<-b3];exact hb) h63
    refine⟨_,_,_,_,hr,?_,?_,jZ _ _ hH,h w.heap.size (jF hH)⟩
    ·simp only[D.is]
     refine⟨_,_,rfl,by omega,?_⟩
     right
     refine⟨by simp,_,e,(0,0),heap_alloc_new w _,?_⟩
     rw[size_madeCells,b2]
     simp
    ·refine hH.alloc ⟨_,(0,0),heap_alloc_new w _,aAY _,?_,?_⟩
     ·rw[size_madeCells,zL,b2,mI]
      exact lQ _ (by omega)
     ·refine gO fun j el hj=>?_
      rw[List.getElem?_replicate] at hj
      split at hj
      ·rename_i fQ
       injection hj with hj
       subst hj
       refine⟨by simp [NH],?_⟩
       refine fD (oO zs (fun v hv=>(eZ.1 aAe) v hv)) fun q v hq=>?_
       have hqz:q<sz:=by have:=(mE.1 hq).1;omega
       rw[cell_of_row _ _ _ _ _ _ (heap_alloc_new w _)]
       have kL:0+j * sz+q<cc.toNat * i'.size:=by
        rw[<-b2,mI]
        exact wR (by omega) hqz
       unfold madeCells
       rw[KU,PO,aE kL]
       have aZK:z.cells.size=sz:=by rw[<-nB,<-b4];exact NH
       simp only[mG]
       rw[aZK,mI,Nat.add_comm,Nat.add_mul_mod_self_right,KV hqz]
       rw[b4] at hq
       rw[<-hq]
       have:q<z.cells.size:=by omega
       simp [this]
      ·cases hj
  ·exact h.elim
 ·exact h.elim
def DG (aJt:Int):Option D->Option Int
 |none=>some aJt
 |some (.val (.int _ i))=>some i
 |_=>none
def NK (w:World) (S:Nat->Prop) (d:Option D) (v:Option Value):Prop:=match d,v with|some d,some v=>D.is w S d v|none,none=>True|_,_=>False
theorem aAE {w:World} {S:Nat->Prop} {aJt i:Int} {d:Option D} {v:Option Value} (h:DG aJt d=some i) (hv:NK w S d v):
  (d=none/\v=none/\i=aJt)\/∃k,v=some (.int k i):=by
 cases d with
 |none=>cases v with
  |none=>simp only[DG] at h;injection h with h;exact .inl ⟨rfl,rfl,h.symm⟩
  |some v=>exact hv.elim
 |some d=>cases v with
  |none=>exact hv.elim
  |some v=>
   simp only[NK] at hv
   cases d with
   |val u=>
    have e:=dZ hv
    subst e
    cases v with
    |int k n=>simp only[DG] at h;injection h with h;subst h;exact .inr ⟨k,rfl⟩
    |_=>simp [DG] at h
   |_=>simp [DG] at h
theorem CJ {P:Program} {w:World} {isSl:Bool} {len cap:Nat} {lo hi:Option Value} {l h:Int} (hl:(lo=none/\l=0)\/∃k,lo=some (.int k l)) (hh:(hi=none/\h=len)\/∃k,hi=some (.int k h)) (h0:0<=l) (h1:l<=h) (h2:h<=cap):
  (Instr.sliceBounds isSl len cap lo hi none).run P w=.ok (l.toNat,h.toNat,cap) w:=by
 have sb:∀(k:IntKind) (i:Int) (y:Nat) code,0<=i->i<=y->(Instr.sliceBound (.int k i) y code).run P w=.ok i.toNat w:=fun k i y code a b=>by
  unfold Instr.sliceBound
  simp only[Sem.run_bind,asIntOf,Sem.run_pure,Result.andThen]
  rw[aE ⟨a,b⟩]
  rfl
 have a1l:((h.toNat:Nat):Int)=h:=Int.toNat_of_nonneg (by omega)
 have aHL:∀code,(match lo with|some v=>Instr.sliceBound v h.toNat code|none=>pure 0:Sem Nat).run P w=.ok l.toNat w:=fun code=>by
  rcases hl with⟨rfl,rfl⟩|⟨k,rfl⟩
  ·rfl
  ·exact sb k l _ _ h0 (by omega)
 unfold Instr.sliceBounds
 rcases hh with⟨rfl,rfl⟩|⟨k,rfl⟩
 ·rw[bI] at aHL ⊢
  simp only[Sem.run_bind,Sem.run_pure,Result.andThen,Option.isSome_none,mF,fW]
  have:=aHL .sliceB
  rcases hl with⟨rfl,rfl⟩|⟨k',rfl⟩
  ·rfl
  ·simp only[Sem.run_bind] at this ⊢
   rw[this]
   rfl
 ·simp only[Sem.run_bind,Sem.run_pure,Result.andThen,sb k h cap _ (by omega) h2,Option.isSome_none,mF,fW]
  have:=aHL .sliceB
  rcases hl with⟨rfl,rfl⟩|⟨k',rfl⟩
  ·rfl
  ·simp only[Sem.run_bind] at this ⊢
   rw[this]
   rfl
def JA (sz:Nat):Nat->List D->List (List D)
 |0,_=>[]
 |k+1,cs=>cs.take sz::JA sz k (cs.drop sz)
theorem U5 (sz:Nat):∀(k:Nat) (cs:List D),(JA sz k cs).length=k
 |0,_=>rfl
 |k+1,cs=>by rw[JA,eO,U5 sz k]
def UI (P:Program) (H:aC) (t:TypeId) (x:D) (lo hi mx:Option D) (K:D->Prop):Prop:=
 match bQ P t with
 |some ⟨.slice e,_,_,_⟩=>(match bQ P e,mx with
  |some E,none=>(match x with
   | .seq sz els=>(match DG 0 lo,DG els.length hi with
    |some l,some h=>sz=E.size/\0<=l/\l<=h/\h<=(els.length:Int)/\K (.seq sz ((els.take h.toNat).drop l.toNat))
    |_,_=>False)
   | .os b o sz k n=>(match DG 0 lo,DG n hi with
    |some l,some h=>sz=E.size/\0<=l/\l<=h/\h<=(n:Int)/\K (.os b o sz (k+l.toNat) (h.toNat - l.toNat))
    |_,_=>False)
   | .val (.slice none 0 0)=>(match DG 0 lo,DG 0 hi with
    |some l,some h=>l=0/\h=0/\K (.val (.slice none 0 0))
    |_,_=>False)
   | .TA=>(match DG 0 lo,DG 0 hi with
    |some l,some h=>l=0/\h=0/\K .TA
    |_,_=>False)
   | .val (.slice (some ⟨b,o,none⟩) n c)=>(match DG 0 lo,DG n hi with
    |some l,some h=>l=0/\0<=h/\h<=(n:Int)/\n<=c/\K (.val (.slice (some ⟨b,o,none⟩) h.toNat c))
    |_,_=>False)
   |_=>False)
  |some E,some (.val (.int _ 0))=>(match DG 0 lo,hi with
   |some 0,some (.val (.int _ 0))=>(match x with
    | .seq _ _| .os _ _ _ _ _| .TA=>K .TA
    | .val (.slice none _ _)=>K (.val (.slice none 0 0))
    |_=>False)
   |_,_=>False)
  |_,_=>False)
 |some ⟨.string,_,_,_⟩=>(match x,mx with
  | .val (.string s),none=>(match DG 0 lo,DG s.size hi with
   |some l,some h=>0<=l/\l<=h/\h<=(s.size:Int)/\K (.val (.string (s.extract l.toNat h.toNat)))
   |_,_=>False)
  |_,_=>False)
 |some ⟨.array n e,_,_,_⟩=>(match bQ P e,mx,x with
  |some E,none,.rp cs=>(match DG 0 lo,DG n hi with
   |some l,some h=>if E.size=1 then n<=cs.length/\0<=l/\l<=h/\h<=(n:Int)/\K (.seq 1 (((cs.take h.toNat).drop l.toNat).map fun c=>[c]))
    else n * E.size<=cs.length/\0<=l/\l<=h/\h<=(n:Int)/\K (.seq E.size (JA E.size (h.toNat - l.toNat) (cs.drop (l.toNat * E.size))))
   |_,_=>False)
  |_,_,_=>False)
 |_=>False
theorem NM {w:World} {S:Nat->Prop} {b:Nat}:∀{cs:List D} {o:Nat},dL w S b o cs->eB w S b 1 o (cs.map fun c=>[c])
 |[],_,_=>by simp only[nE,eB]
 |c::cs,o,h=>by
  simp only[dL] at h
  simp only[eU,eB,dL]
  exact⟨rfl,⟨h.1,trivial⟩,NM h.2⟩
theorem J8 {w:World} {S:Nat->Prop} {b sz:Nat}:∀{k:Nat} {cs:List D} {o:Nat},dL w S b o cs->k * sz<=cs.length->eB w S b sz o (JA sz k cs)
 |0,_,_,_,_=>by simp only[JA,eB]
 |k+1,cs,o,h,hl=>by
  rw[oY] at hl
  simp only[JA,eB]
  refine⟨by rw[dU];omega,B2 h _,J8 (nM h _) (by rw[nD];omega)⟩
theorem aLr {P:Program} {H:aC} {w:World} {t:TypeId} {x:D} {lo hi mx:Option D} {v:Value} {vlo vhi vmx:Option Value} {K:D->Prop} (h:UI P H t x lo hi mx K) (hx:D.is w H.others x v)
  (OW:NK w H.others lo vlo) (hhi:NK w H.others hi vhi) (hmx:NK w H.others mx vmx):∃u d,(Instr.sliceAt t v vlo vhi vmx).run P w=.ok u w/\D.is w H.others d u/\K d:=by
 have low:∀{l:Int},DG 0 lo=some l->(vlo=none/\l=0)\/∃k,vlo=some (.int k l):=fun hb=>by
  rcases aAE hb OW with⟨_,h1,h2⟩|h1
  ·exact .inl ⟨h1,h2⟩
  ·exact .inr h1
 have aAd:∀{m h:Int},DG m hi=some h->(vhi=none/\h=m)\/∃k,vhi=some (.int k h):=fun hb=>by
  rcases aAE hb hhi with⟨_,h1,h2⟩|h1
  ·exact .inl ⟨h1,h2⟩
  ·exact .inr h1
 unfold UI at h
 split at h
 ·rename_i e _ _ _ hT
  obtain⟨dT,iT,a1,a2,a3⟩:=eE hT
  injection a3 with a3
  cases dT <;> simp [lV] at a3
  subst a3
  split at h
  ·rename_i E hE
   cases vmx with
   |some _=>exact hmx.elim
   |none=>
   have key:∀{A:Option Addr} {n c:Nat} {l hh:Int},((vlo=none/\l=0)\/∃k,vlo=some (.int k l))->((vhi=none/\hh=n)\/∃k,vhi=some (.int k hh))->0<=l->l<=hh->hh<=n->n<=c->
     (Instr.sliceAt t (.slice A n c) vlo vhi none).run P w=.ok (.slice (if c=l.toNat then A else A.map (·.add (l.toNat * E.size))) (hh.toNat - l.toNat) (c - l.toNat)) w:=fun {A n c l hh} h1 h2 h3 h4 h5 h6=>by
    unfold Instr.sliceAt
    simp only[Sem.run_bind,bT a1,Result.andThen,Instr.slice,CJ (P:=P) (w:=w) (isSl:=true) (len:=n) (cap:=c) h1 h2 h3 h4 (by omega),gR hE,Sem.run_pure]
   split at h
   ·rename_i sz els
    split at h
    ·rename_i l hh l4 hbh
     obtain⟨rfl,h0,h1,h2,h⟩:=h
     simp only[D.is] at hx
     obtain⟨A,c,rfl,h3,h4⟩:=hx
     refine⟨_,_,key (low l4) (aAd hbh) h0 h1 h2 h3,?_,h⟩
     simp only[D.is]
     have fJ:((els.take hh.toNat).drop l.toNat).length=hh.toNat - l.toNat:=by rw[nD,dU];omega
     refine⟨_,_,by rw[fJ],by rw[fJ];omega,?_⟩
     rcases h4 with rfl|⟨b,o,rfl,h5,h6,h7⟩
     ·left;simp
     ·by_cases BB:c=l.toNat
      ·left
       apply iX
       rw[fJ];omega
      ·right
       rw[aA BB]
       exact⟨b,o+l.toNat * E.size,by rw[mG,Addr.add_lit],h5,h6,vI (pU h7 _) _⟩
    ·exact h.elim
   ·rename_i b o sz k n
    split at h
    ·rename_i l hh l4 hbh
     obtain⟨rfl,h0,h1,h2,h⟩:=h
     simp only[D.is] at hx
     obtain⟨A,c,rfl,h3,h4⟩:=hx
     refine⟨_,_,key (low l4) (aAd hbh) h0 h1 h2 h3,?_,h⟩
     simp only[D.is]
     refine⟨_,_,rfl,by omega,?_⟩
     by_cases BB:c=l.toNat
     ·left;omega
     ·right
      rcases h4 with h4|⟨rfl,cs,ty,fr,h5,h6⟩
      ·omega
      ·rw[aA BB,mG,Addr.add_lit,C0,<-gE]
       exact⟨rfl,cs,ty,fr,h5,by rw[show k+l.toNat+(c - l.toNat)=k+c by omega];exact h6⟩
    ·exact h.elim
   ·split at h
    ·rename_i l hh l4 hbh
     obtain⟨rfl,rfl,h⟩:=h
     have e1:=dZ hx
     subst e1
     refine⟨_,_,key (n:=0) (low l4) (aAd hbh) (by omega) (by omega) (by omega) (by omega),?_,h⟩
     simp only[D.is]
     rfl
    ·exact h.elim
   ·split at h
    ·rename_i l hh l4 hbh
     obtain⟨rfl,rfl,h⟩:=h
     simp only[D.is] at hx
     obtain⟨A,rfl⟩:=hx
     refine⟨_,_,key (n:=0) (low l4) (aAd hbh) (by omega) (by omega) (by omega) (by omega),?_,h⟩
     simp only[D.is]
     exact⟨_,rfl⟩
    ·exact h.elim
   ·split at h
    ·rename_i l hh l4 hbh
     obtain⟨rfl,h0,h1,h2,h⟩:=h
     have e1:=dZ hx
     subst e1
     refine⟨_,_,key (low l4) (aAd hbh) (by omega) h0 h1 h2,?_,h⟩
     have ea:∀(b o:Nat),(if 0=(0:Int).toNat then some (⟨b,o,none⟩:Addr) else none)=some ⟨b,o,none⟩:=fun _ _=>rfl
     simp only[D.is,Int.toNat_zero,KZ,C5,mG,Addr.add_lit,u6,ite_self]
    ·exact h.elim
   ·exact h.elim
  ·rename_i E _ _ hE
   cases vmx with
   |none=>exact hmx.elim
   |some vm=>
   simp only[NK,D.is] at hmx
   subst hmx
   split at h
   ·rename_i k0 l4
    cases vhi with
    |none=>exact hhi.elim
    |some vh=>
    simp only[NK,D.is] at hhi
    subst hhi
    have hl:=low l4
    have sb:∀(k:IntKind) (y:Nat) code,(Instr.sliceBound (.int k 0) y code).run P w=.ok 0 w:=fun k y code=>by
     unfold Instr.sliceBound
     simp only[Sem.run_bind,asIntOf,Sem.run_pure,Result.andThen]
     rw[aE ⟨by omega,by omega⟩]
     rfl
    have key:∀{km:IntKind} {A:Option Addr} {n c:Nat},(Instr.sliceAt t (.slice A n c) vlo (some (.int k0 0)) (some (.int km 0))).run P w=.ok (.slice A 0 0) w:=fun {km A n c}=>by
     unfold Instr.sliceAt
     simp only[Sem.run_bind,bT a1,Result.andThen,Instr.slice,Instr.sliceBounds,sb,Sem.run_pure]
     rcases hl with⟨rfl,_⟩|⟨k',rfl⟩
     ·simp only[Sem.run_pure,gR hE]
      rfl
     ·simp only[sb,Sem.run_pure,gR hE]
      rfl
    split at h
    ·simp only[D.is] at hx
     obtain⟨A,c,rfl,_⟩:=hx
     exact⟨_,_,key,by simp only[D.is];exact⟨_,rfl⟩,h⟩
    ·simp only[D.is] at hx
     obtain⟨A,c,rfl,_⟩:=hx
     exact⟨_,_,key,by simp only[D.is];exact⟨_,rfl⟩,h⟩
    ·simp only[D.is] at hx
     obtain⟨A,rfl⟩:=hx
     exact⟨_,_,key,by simp only[D.is];exact⟨_,rfl⟩,h⟩
    ·have e1:=dZ hx
     subst e1
     exact⟨_,_,key,by simp only[D.is],h⟩
    ·exact h.elim
   ·exact h.elim
  ·exact h.elim
 ·rename_i hT
  obtain⟨dT,iT,a1,a2,a3⟩:=eE hT
  injection a3 with a3
  cases dT <;> simp [lV] at a3
  split at h
  ·rename_i s
   cases vmx with
   |some _=>exact hmx.elim
   |none=>
   split at h
   ·rename_i l hh l4 hbh
    obtain⟨h0,h1,h2,h⟩:=h
    have e1:=dZ hx
    subst e1
    refine⟨_,_,?_,uA _,h⟩
    unfold Instr.sliceAt
    simp only[Sem.run_bind,bT a1,Result.andThen,Instr.slice,Option.isSome_none,mF,fW,CJ (P:=P) (w:=w) (isSl:=false) (len:=s.size) (cap:=s.size) (low l4) (aAd hbh) h0 h1 h2,Sem.run_pure]
   ·exact h.elim
  ·exact h.elim
 ·rename_i n e _ _ _ hT
  obtain⟨dT,iT,a1,a2,a3⟩:=eE hT
  injection a3 with a3
  cases dT <;> simp [lV] at a3
  rename_i n' e'
  obtain⟨a3,a4⟩:=a3
  subst n' e'
  split at h
  ·rename_i E cs hE
   cases vmx with
   |some _=>exact hmx.elim
   |none=>
   split at h
   ·rename_i l hh l4 hbh
    split at h
    ·rename_i hE1
     obtain⟨hn,h0,h1,h2,h⟩:=h
     simp only[D.is] at hx
     obtain⟨b,o,rfl,h3,h4,h5⟩:=hx
     have fJ:(((cs.take hh.toNat).drop l.toNat).map fun c=>[c]).length=hh.toNat - l.toNat:=by rw[bC,nD,dU];omega
     refine⟨.slice (some (if n=l.toNat then ⟨b,o,none⟩ else (⟨b,o,none⟩:Addr).add (l.toNat * E.size))) (hh.toNat - l.toNat) (n - l.toNat),_,?_,?_,h⟩
     ·unfold Instr.sliceAt
      simp only[Sem.run_bind,bT a1,Result.andThen,Instr.sureAddr,Sem.run_pure,CJ (P:=P) (w:=w) (isSl:=false) (len:=n) (cap:=n) (low l4) (aAd hbh) h0 h1 h2,gR hE]
     ·simp only[D.is]
      refine⟨_,_,by rw[fJ],by rw[fJ];omega,?_⟩
      by_cases BB:n=l.toNat
      ·left
       apply iX
       rw[fJ];omega
      ·right
       rw[aA BB,hE1,C6]
       exact⟨b,o+l.toNat,by rw[Addr.add_lit],h3,h4,NM (nM (B2 h5 _) _)⟩
    ·rename_i hE1
     obtain⟨hn,h0,h1,h2,h⟩:=h
     simp only[D.is] at hx
     obtain⟨b,o,rfl,h3,h4,h5⟩:=hx
     have fJ:=U5 E.size (hh.toNat - l.toNat) (cs.drop (l.toNat * E.size))
     refine⟨.slice (some (if n=l.toNat then ⟨b,o,none⟩ else (⟨b,o,none⟩:Addr).add (l.toNat * E.size))) (hh.toNat - l.toNat) (n - l.toNat),_,?_,?_,h⟩
     ·unfold Instr.sliceAt
      simp only[Sem.run_bind,bT a1,Result.andThen,Instr.sureAddr,Sem.run_pure,CJ (P:=P) (w:=w) (isSl:=false) (len:=n) (cap:=n) (low l4) (aAd hbh) h0 h1 h2,gR hE]
     ·simp only[D.is]
      refine⟨_,_,by rw[fJ],by rw[fJ];omega,?_⟩
      by_cases BB:n=l.toNat
      ·left
       apply iX
       rw[fJ];omega
      ·right
       rw[aA BB]
       refine⟨b,o+l.toNat * E.size,by rw[Addr.add_lit],h3,h4,J8 (nM h5 _) ?_⟩
       rw[nD]
       have e1:(hh.toNat - l.toNat) * E.size=hh.toNat * E.size - l.toNat * E.size:=Nat.sub_mul _ _ _
       have e2:hh.toNat * E.size<=n * E.size:=lQ _ (by omega)
       omega
   ·exact h.elim
  ·exact h.elim
 ·exact h.elim
def TD.kX:TD->Bool
 | .int _=>false
 |_=>true
def mK (H:aC) (sz:Nat) (x:D) (K:List (List D)->Prop):Prop:=
 match x with
 | .val (.string s)=>sz=1/\K (s.data.toList.map bD)
 |x=>nH H sz x K
theorem D6 {w:World} {S:Nat->Prop}:∀(l:List UInt8),aU w S (l.map bD).flatten (l.map fun b=>.int .u8 (b.toNat:Int))
 |[]=>by simp [aU]
 |c::l=>by
  simp only[eU,CX,bD,List.singleton_append,aU,D.is]
  exact⟨_,_,rfl,rfl,rfl,D6 l⟩
theorem RU {P:Program} {H:aC} {w:World} (hH:iK w H) {sz:Nat} {x:D} {v:Value} {K:List (List D)->Prop} (h:mK H sz x K) (hx:D.is w H.others x v):
  ∃els us,K els/\(∀e∈els,e.length=sz)/\aU w H.others els.flatten us/\us.length=els.length * sz/\(∀W,(Builtin.lenOf v).run P W=.ok els.length W)/\∀W:World,W.heap=w.heap->(Builtin.firstCells sz els.length v).run P W=.ok ⟨us⟩ W:=by
 unfold mK at h
 split at h
 ·rename_i s
  obtain⟨rfl,h⟩:=h
  have e:=dZ hx
  subst e
  have lZ:s.size=s.data.toList.length:=nB.symm
  refine⟨_,s.data.toList.map fun b=>.int .u8 (b.toNat:Int),h,fun e he=>?_,D6 _,by rw[bC,bC,C6],fun W=>?_,fun W _=>?_⟩
  ·obtain⟨c,_,rfl⟩:=eW.1 he;rfl
  ·rw[bC,<-lZ];rfl
  ·have hl:(List.map bD s.data.toList).length=s.size:=by rw[bC];exact lZ.symm
   rw[hl]
   simp only[Builtin.firstCells,Sem.run_pure]
   congr 1
   apply n9
   simp only[Array.toList_map]
   rw[show(s.extract 0 s.size)=s from ByteArray.ext (by rw[ZX];exact Array.extract_size)]
 ·obtain⟨els,A,c,hk,rfl,aS,CD⟩:=AV hH h hx
  rcases CD with rfl|⟨b,o,rfl,hb,hr⟩
  ·refine⟨[],[],hk,by simp,by simp [aU],by simp,fun W=>rfl,fun W _=>?_⟩
   cases A with
   |none=>rfl
   |some a=>simp only[Builtin.firstCells,wF,C5];rfl
  ·obtain⟨us,h1,h2,h3⟩:=vJ hr
   refine⟨els,us,hk,s8 hr,h1,h2,fun W=>rfl,fun W hW=>?_⟩
   simp only[Builtin.firstCells]
   rw[<-h2]
   have:=run_loadCells_list (P:=P) W ⟨b,o,none⟩ us (fun j v hj=>by
    rw[Addr.add_lit,<-h3 j v hj]
    simp only[World.cell?,hW])
   rw[this]
theorem SE {P:Program} {w:World} {t xt ty e:TypeId} {dx:TypeDesc} {E:Ti} (ht:P.underlying t=some (.slice e)) (hxt:P.underlying xt=some dx) (hni:(lV dx).kX=true)
  (hE:bQ P e=some E) (a:Addr) (n c m:Nat) (x:Value) (us:List Value) (fJ:∀W,(Builtin.lenOf x).run P W=.ok m W) (AA:∀W:World,W.heap=w.heap->(Builtin.firstCells E.size m x).run P W=.ok ⟨us⟩ W)
  (aS:n+m<=c) (w':World) (nI:(storeCells (a.add (n * E.size)) us).run P w=.ok () w'):(Builtin.append_ #[t,xt] ty #[.slice (some a) n c,x]).run P w=.ok (.slice (some a) (n+m) c) w':=by
 unfold Builtin.append_
 cases dx <;> first
  |(cases hni;done)
  |(simp only[yG,qO,AI,Sem.run_bind,bT ht,bT hxt,Result.andThen,gR hE,mF,fW,fJ w,Sem.run_pure,uU,fO,u9,aE aS,AA w rfl,nI])
theorem s9 {P : Program} {w : World} {t xt ty e : TypeId} {dx : TypeDesc} {E : Ti} {zs : List Value} (ht : P.underlying t = some (.slice e)) (hxt : P.underlying xt = some dx) (hni : (lV dx).kX = true)
    (hE : bQ P e = some E) (hz : E.zero = some zs) (A : Option Addr) (n c m : Nat) (x : Value) (us GS : List Value) (fJ : ∀ W, (Builtin.lenOf x).run P W = .ok m W) (AA : ∀ W : World, W.heap = w.heap -> (Builtin.firstCells E.size m x).run P W = .ok ⟨us⟩ W)
    (hold : ∀ W : World, W.heap = w.heap -> (Builtin.firstCells E.size n (.slice A n c)).run P W = .ok ⟨GS⟩ W) (wN : E.bytes ≠ 0) (hb : (n + m) * E.bytes <= 140737488355328) :
    (n + m <= c -> ∀ w', (match A with | some a => storeCells (a.add (n * E.size)) us | none => pure () : Sem Unit).run P w = .ok () w' -> (Builtin.append_ #[t, xt] ty #[.slice A n c, x]).run P w = .ok (.slice A (n + m) c) w') /\
    (c < n + m -> ∃ cap eJ, n + m <= cap /\ (Builtin.append_ #[t, xt] ty #[.slice A n c, x]).run P w = .ok (.slice (some ⟨w.heap.size, 0, none⟩) (n + m) cap) (w.drew.alloc (Obj.cells ⟨GS ++ us ++ eJ⟩ e)) /\ eJ.length = (cap - (n + m)) * zs.length) := by
  obtain ⟨i, b1, b2, b3, b4, b5⟩ := rH hE w
  have U0 : ∀ W, (typeInfo e).run P W = .ok i W := fun W => by
    obtain ⟨i', c1, _, _, _, c5⟩ := rH hE W
    rw [b5] at c5
    injection c5 with c5
    subst c5
    exact c1
  constructor
  · intro aS w' nI
    unfold Builtin.append_
    cases dx <;> first
      | (cases hni; done)
      | (simp only [yG, qO, AI, Sem.run_bind, bT ht, bT hxt, Result.andThen, gR hE, mF, fW, fJ w, Sem.run_pure, uU, fO, u9, aE aS, AA w rfl]
         cases A with
         | none =>
           simp only [Sem.run_pure] at nI ⊢
           injection nI with _ nI
           subst nI
           rfl
         | some a =>
           simp only at nI ⊢
           simp only [Sem.run_bind, nI, Result.andThen, Sem.run_pure])
  · intro kL
    have YE : ¬ (n + m <= c) := by omega
    have hn1 : ¬ (((n + m : Nat) : Int) > IntKind.i64.max /\ i.bytes = 0) := by
      rintro ⟨h1, h2⟩
      exact wN (b3.trans h2)
    have N8 := growslice_fits kL hb
    have hn2 : ¬ (Builtin.nextslicecap (n + m) c * i.bytes > 2 ^ 48) := by rw [<- b3]; omega
    obtain ⟨cap, aA7⟩ : ∃ cap, cap = (Question.appendCap (n + m) c e).cut (w.tape w.drawn (.appendCap (n + m) c e)) := ⟨_, rfl⟩
    have GM : n + m <= cap := by rw [aA7]; simp [Question.cut]
    have JM : (choose (.appendCap (n + m) c e)).run P w = .ok cap w.drew := by
      rw [aA7]
      simp only [choose, Sem.run, Question.forced]
      rfl
    have aGs : ∀ k W, (askRoom k).run P W = .ok () W := fun k W => by
      unfold askRoom
      split <;> rfl
    obtain ⟨z, T9, hz2⟩ := vK hE hz w.drew
    refine ⟨cap, (Builtin.zeroCells z.cells (cap - (n + m))).toList, GM, ?_, by simp [Builtin.zeroCells, <- hz2]⟩
    have aNd : (⟨GS⟩ : Array Value) ++ ⟨us⟩ ++ Builtin.zeroCells z.cells (cap - (n + m)) = ⟨GS ++ us ++ (Builtin.zeroCells z.cells (cap - (n + m))).toList⟩ := n9 (by simp)
    unfold Builtin.append_
    cases dx <;> first
      | (cases hni; done)
      | (simp only [yG, qO, AI, Sem.run_bind, bT ht, bT hxt, Result.andThen, gR hE, mF, fW, fJ w, Sem.run_pure, uU, fO, u9, aA YE, U0, aA hn1, aA hn2, JM, aGs, hold w.drew rfl, AA w.drew rfl, T9, newRow, newObj, Sem.run]
         rw [aNd]
         rfl)
def WX (P:Program) (H:aC) (t xt:TypeId) (s x:D) (K:D->aC->Prop):Prop:=
 match bQ P t,bQ P xt with
 |some ⟨.slice e,_,_,_⟩,some X=>X.d.kX=true/\(match bQ P e with
  |some ⟨_,sz,uW,some zs⟩=>zs.length=sz/\uW≠0/\mK H sz x fun els=>(match s with
   | .val (.slice none 0 0)=>els.length * uW<=140737488355328/\(els=[]->K (.val (.slice none 0 0)) H)/\(els≠[]->∀b,H b=none->K (.os b 0 sz 0 els.length) (H.bH b (.row e 0 sz els)))
   | .TA=>els.length * uW<=140737488355328/\(els=[]->K .TA H)/\(els≠[]->∀b,H b=none->K (.os b 0 sz 0 els.length) (H.bH b (.row e 0 sz els)))
   | .os b o DF k n=>DF=sz/\(n+els.length) * uW<=140737488355328/\(match H b with
    |some (.row ty o' pF iU)=>ty=e/\o'=o/\pF=sz/\k+n<=iU.length/\∀b' o',(H.del b) b'=none->K (.os b' o' sz 0 (n+els.length)) ((H.del b).bH b' (.row e o' sz ((iU.drop k).take n++els)))
    |_=>False)
   | .val (.slice (some ⟨b,o,none⟩) n c)=>n+els.length<=c/\(match H b with
    |some (.row ty o' pF iU)=>o'=o/\pF=sz/\c<=iU.length/\K (.val (.slice (some ⟨b,o,none⟩) (n+els.length) c)) (H.bH b (.row ty o sz (iU.take n++els++iU.drop (n+els.length))))
    |_=>False)
   |_=>False)
  |_=>False)
 |_,_=>False
theorem aC.aDM (H:aC) (b:Nat) (x:fK):(H.del b).bH b x=H.bH b x:=funext fun c=>by
 by_cases h:c=b
 ·subst h;rw[aO,aO]
 ·rw[aN h,aN h,bS h]
theorem aC.aNa (H:aC) (b:Nat):(H.del b).le H:=fun c x h=>by
 by_cases e:c=b
 ·subst e;rw[tG] at h;cases h
 ·rw[bS e] at h;exact h
abbrev C7:=@aC.aNa
theorem sV (H:aC) (w:World):Ev H w H w.drew:=⟨rfl,rfl,rfl,dI _,fun _ _ h=>⟨rfl,h⟩,fun _ _ _ fr h=>⟨_,fr,h,rfl⟩⟩
theorem iK.drew {H:aC} {w:World} (h:iK w H):iK w.drew H:=fun b x hb=>(sV H w).sZ rfl (h b x hb)
theorem SC {H:aC} {w:World} (hH:iK w H) (t:TypeId) (sz:Nat) (els:List (List D)) (vs us:List Value) (hv:aU w H.others els.flatten vs) (lZ:∀el∈els,el.length=sz) (fJ:vs.length=els.length * sz):
  iK (w.alloc (Obj.cells ⟨vs++us⟩ t)) (H.bH w.heap.size (.row t 0 sz els)):=by
 refine hH.alloc ⟨⟨vs++us⟩,(0,0),heap_alloc_new w _,aAY _,by simp;omega,?_⟩
 refine CI lZ (cK (jZ _ _ hH).kept _ hv) fun j v hj=>?_
 rw[cell_of_row _ _ _ _ _ _ (heap_alloc_new w _),mI]
 have kL:=(mE.1 hj).1
 simp only[yG]
 rw[r5 kL]
 exact hj
theorem aDy {P:Program} {H:aC} {w:World} (hH:iK w H) {S:Sem Value} {ty:TypeId} {sz n k b o' c zl:Nat} {A:Option Addr} {els iU:List (List D)} {us:List Value} {K:D->aC->Prop}
  (hHb:H b=some (.row ty o' sz iU)) (aS:k+n<=iU.length) (NH:zl=sz)
  (h:∀b' o',(H.del b) b'=none->K (.os b' o' sz 0 (n+els.length)) ((H.del b).bH b' (.row ty o' sz ((iU.drop k).take n++els))))
  (hnc:n<=c) (hA:c=0\/(A=some ⟨b,o'+k * sz,none⟩/\∃cs t fr,w.heap[b]?=some (Obj.cells cs t fr)/\o'+(k+c) * sz<=cs.size))
  (lZ:∀e∈els,e.length=sz) (VK:aU w H.others els.flatten us) (K7:us.length=els.length * sz)
  (aZB:∀GS:List Value,(∀W:World,W.heap=w.heap->(Builtin.firstCells sz n (.slice A n c)).run P W=.ok ⟨GS⟩ W)->
   (n+els.length<=c->∀w',(match A with|some a=>storeCells (a.add (n * sz)) us|none=>pure ():Sem Unit).run P w=.ok () w'->S.run P w=.ok (.slice A (n+els.length) c) w')/\
   (c<n+els.length->∃cap eJ,n+els.length<=cap/\S.run P w=.ok (.slice (some ⟨w.heap.size,0,none⟩) (n+els.length) cap) (w.drew.alloc (Obj.cells ⟨GS++us++eJ⟩ ty))/\eJ.length=(cap - (n+els.length)) * zl)):
  ∃r d' w' H',S.run P w=.ok r w'/\D.is w' H'.others d' r/\iK w' H'/\Ev H w H' w'/\K d' H':=by
 obtain⟨cs,fr,g1,g2,g3,g4⟩:=hH _ _ hHb
 have aHS:=pU (vI g4 k) n
 have YA:((iU.drop k).take n).length=n:=by rw[dU,nD];omega
 obtain⟨GS,o1,o2,o3⟩:=vJ aHS
 rw[YA] at o2
 have hold:∀W:World,W.heap=w.heap->(Builtin.firstCells sz n (.slice A n c)).run P W=.ok ⟨GS⟩ W:=fun W hW=>by
  rcases hA with hA|⟨rfl,_⟩
  ·obtain rfl:n=0:=by omega
   have:GS=[]:=iX (by simpa using o2)
   subst this
   cases A <;> simp [Builtin.firstCells,loadCells,loadCellsFrom]
  ·simp only[Builtin.firstCells]
   rw[<-o2]
   exact run_loadCells_list (P:=P) W ⟨b,o'+k * sz,none⟩ GS (fun j v hj=>by
    rw[Addr.add_lit,<-o3 j v hj]
    simp only[World.cell?,hW])
 obtain⟨r1,r2⟩:=aZB GS hold
 by_cases N8:n+els.length<=c
 ·
  have fG:=h b (o'+k * sz) (tG H b)
  rw[aC.aDM] at fG
  have aQY:k * sz+n * sz<=iU.length * sz:=by rw[<-gE];exact lQ _ aS
  rcases hA with hA|⟨rfl,U7,t1,fr1,f1,f2⟩
  ·obtain rfl:n=0:=by omega
   have GI:els=[]:=iX (by omega)
   subst GI
   have aOV:us=[]:=iX (by simpa using K7)
   subst aOV
   have lO:Ev H w (H.bH b (.row ty (o'+k * sz) sz ((iU.drop k).take 0++[]))) w:=pO (by rw[hHb];simp) rfl rfl rfl rfl (fun _ _=>rfl) (fun cs0 t0 fr0 h0=>⟨cs0,fr0,h0,rfl⟩)
   refine⟨_,_,w,_,r1 N8 w (by cases A <;> rfl),?_,mW hH lO (fun _ _=>rfl) ⟨cs,fr,g1,g2,?_,?_⟩,lO,fG⟩
   ·simp only[D.is]
    exact⟨A,c,rfl,by omega,.inl hA⟩
   ·simp;omega
   ·simp only[wZ,iJ,eB]
  ·rw[g1] at f1
   injection f1 with f1
   injection f1 with x1 x2 x3
   subst x1 x2 x3
   have hfz:o'+k * sz+n * sz+0+us.length<=cs.size:=by
    rw[K7]
    have:(k+(n+els.length)) * sz<=(k+c) * sz:=lQ _ (by omega)
    rw[gE,gE] at this
    omega
   obtain⟨w',yP,e1,e2,e3,e4,ho,w9,q1,q2,q3,q4⟩:=kA (P:=P) b ty fr us (o'+k * sz+n * sz) 0 w cs g1 g2 hfz (sT VK)
   have lO:Ev H w (H.bH b (.row ty (o'+k * sz) sz ((iU.drop k).take n++els))) w':=pO (by rw[hHb];simp) e1 e2 e3 e4 ho (fun cs0 t0 fr0 h0=>by
    rw[g1] at h0
    injection h0 with h0
    injection h0 with x1 x2 x3
    subst x1 x2 x3
    exact⟨w9,_,q1,q2⟩)
   refine⟨_,_,w',_,r1 N8 w' (by simp only[Addr.add_lit];exact yP),?_,mW hH lO ho ⟨w9,fr,q1,by rw[q2];exact g2,?_,?_⟩,lO,fG⟩
   ·simp only[D.is]
    refine⟨_,c,rfl,N8,.inr ⟨by simp,w9,ty,fr,q1,?_⟩⟩
    rw[q2,mI]
    have:(k+c) * sz=k * sz+c * sz:=gE _ _ _
    omega
   ·rw[q2,bN,YA,gE,<-K7]
    omega
   ·have G5:∀j,w'.cell? ⟨b,j,none⟩=w9[j]?:=fun j=>cell_of_row w' b j w9 ty fr q1
    have EI:∀j,w.cell? ⟨b,j,none⟩=cs[j]?:=fun j=>cell_of_row w b j cs ty fr g1
    refine CI (vs:=GS++us) ?_ ?_ ?_
    ·intro el DB
     rcases bV.1 DB with h1|h1
     ·exact s8 aHS el h1
     ·exact lZ el h1
    ·rw[PQ]
     exact fB (cK lO.kept _ o1) (cK lO.kept _ VK)
    ·intro j v hj
     rcases oC j GS.length with kL|GM
     ·rw[r5 kL] at hj
      rw[G5,q4 _ (by omega),<-EI]
      exact o3 j v hj
     ·rw[wA GM] at hj
      rw[G5,show o'+k * sz+j=o'+k * sz+n * sz+0+(j - GS.length) by omega]
      exact q3 _ v hj
 ·
  obtain⟨cap,eJ,h3,h4,h5⟩:=r2 (by omega)
  have mV:iK w.drew (H.del b):=hH.drew.less (C7 H b)
  have hn:(H.del b) w.heap.size=none:=by
   have:=jF hH
   rw[bS]
   ·exact this
   ·have:=hH.lt hHb
    omega
  have CA:P7 H.others (H.del b).others w w.drew:=(sV H w).less (C7 H b) |>.kept
  refine⟨_,_,_,_,h4,?_,?_,((sV H w).less (C7 H b)).trans (jZ _ _ mV),h w.heap.size 0 hn⟩
  ·simp only[D.is]
   refine⟨_,_,rfl,h3,.inr ⟨by simp,_,ty,(0,0),heap_alloc_new w.drew _,?_⟩⟩
   simp only[PX,bN,h5,K7,NH,o2]
   rw[<-gE,<-gE]
   simp only[mI]
   exact lQ _ (by omega)
  ·have:=SC (w:=w.drew) mV ty sz ((iU.drop k).take n++els) (GS++us) eJ (by rw[PQ];exact fB (cK CA _ o1) (cK CA _ VK)) (by
     intro el DB
     rcases bV.1 DB with h1|h1
     ·exact s8 aHS el h1
     ·exact lZ el h1) (by rw[bN,bN,YA,o2,K7,gE])
   simpa using this
theorem aLa {P:Program} {H:aC} {w:World} (hH:iK w H) {t xt ty:TypeId} {s x:D} {v u:Value} {K:D->aC->Prop} (h:WX P H t xt s x K) (hs:D.is w H.others s v) (hx:D.is w H.others x u):
  ∃r d' w' H',(Builtin.append_ #[t,xt] ty #[v,u]).run P w=.ok r w'/\D.is w' H'.others d' r/\iK w' H'/\Ev H w H' w'/\K d' H':=by
 unfold WX at h
 split at h
 ·rename_i e _ _ _ X hT hX
  obtain⟨hni,h⟩:=h
  split at h
  ·rename_i dE sz uW zs hE
   obtain⟨NH,wN,h⟩:=h
   obtain⟨d,i,a1,a2,a3⟩:=eE hT
   injection a3 with a3
   cases d <;> simp [lV] at a3
   subst a3
   obtain⟨dx,ix,c1,c2,rfl⟩:=eE hX
   obtain⟨els,us,h,lZ,VK,K7,fJ,AA⟩:=RU (P:=P) hH h hx
   have aM4:∀(A:Option Addr),els.length * uW<=140737488355328->els≠[]->K (.os w.heap.size 0 sz 0 els.length) (H.bH w.heap.size (.row e 0 sz els))->
     ∃r d' w' H',(Builtin.append_ #[t,xt] ty #[.slice A 0 0,u]).run P w=.ok r w'/\D.is w' H'.others d' r/\iK w' H'/\Ev H w H' w'/\K d' H':=by
    intro A hb fM hk
    obtain⟨_,h2⟩:=s9 (P:=P) (w:=w) (ty:=ty) a1 c1 hni hE rfl A 0 0 els.length u us [] fJ AA (fun W _=>by cases A <;> simp [Builtin.firstCells,loadCells,loadCellsFrom]) wN (by simpa using hb)
    have aK7:0<els.length:=by
     rcases els with _|⟨_,_⟩
     ·exact absurd rfl fM
     ·simp
    obtain⟨cap,eJ,h3,h4,h5⟩:=h2 (by omega)
    rw[mI] at h4 h3
    refine⟨_,_,_,_,h4,?_,?_,(sV H w).trans (jZ _ _ hH.drew),hk⟩
    ·simp only[D.is]
     refine⟨_,_,rfl,h3,.inr ⟨by simp,_,e,(0,0),heap_alloc_new w.drew _,?_⟩⟩
     simp only[PX,bN,wF,mI,h5,K7,NH]
     rw[<-gE]
     exact lQ _ (by omega)
    ·have:=SC (w:=w.drew) hH.drew e sz els us eJ (cK (sV H w).kept _ VK) lZ K7
     simpa using this
   split at h
   ·obtain⟨hb,h1,h2⟩:=h
    have e1:=dZ hs
    subst e1
    by_cases fM:els=[]
    ·subst fM
     obtain⟨h3,_⟩:=s9 (P:=P) (w:=w) (ty:=ty) a1 c1 hni hE rfl none 0 0 0 u us [] fJ AA (fun W _=>rfl) wN (by simp)
     exact⟨_,_,w,H,h3 (by omega) w rfl,uA _,hH,fT _ _,h1 rfl⟩
    ·exact aM4 none hb fM (h2 fM _ (jF hH))
   ·obtain⟨hb,h1,h2⟩:=h
    simp only[D.is] at hs
    obtain⟨A,rfl⟩:=hs
    by_cases fM:els=[]
    ·subst fM
     have aOV:us=[]:=iX (by simpa using K7)
     subst aOV
     obtain⟨h3,_⟩:=s9 (P:=P) (w:=w) (ty:=ty) a1 c1 hni hE rfl A 0 0 0 u [] [] fJ AA (fun W _=>by cases A <;> simp [Builtin.firstCells,loadCells,loadCellsFrom]) wN (by simp)
     exact⟨_,_,w,H,h3 (by omega) w (by cases A <;> rfl),by simp only[D.is];exact⟨A,rfl⟩,hH,fT _ _,h1 rfl⟩
    ·exact aM4 A hb fM (h2 fM _ (jF hH))
   ·rename_i b o DF k n _
    obtain⟨rfl,hb,h⟩:=h
    split at h
    ·rename_i ty' o' pF iU hHb
     obtain⟨rfl,rfl,rfl,aS,h⟩:=h
     simp only[D.is] at hs
     obtain⟨A,c,rfl,hnc,hA⟩:=hs
     exact aDy hH (ty:=ty') hHb aS NH h hnc hA lZ VK K7 fun GS hold=>s9 (P:=P) (w:=w) (ty:=ty) a1 c1 hni hE rfl A n c els.length u us GS fJ AA hold wN hb
    ·exact h.elim
   ·rename_i b o n c _
    obtain⟨N8,h⟩:=h
    have e1:=dZ hs
    subst e1
    split at h
    ·rename_i ty' o' pF iU hHb
     obtain⟨rfl,rfl,BB,hk⟩:=h
     obtain⟨cs,fr,g1,g2,g3,g4⟩:=hH _ _ hHb
     obtain⟨aIA,o1,o2,o3⟩:=vJ (pU g4 n)
     obtain⟨aZP,p1,p2,p3⟩:=vJ (vI g4 (n+els.length))
     have hl1:(iU.take n).length=n:=by rw[dU];omega
     rw[hl1] at o2
     rw[nD] at p2
     have aGv:∀q,q<=iU.length->o'+q * pF<=cs.size:=fun q hq=>by
      have:q * pF<=iU.length * pF:=lQ _ hq
      omega
     have hfz:o'+n * pF+0+us.length<=cs.size:=by
      have:=aGv (n+els.length) (by omega)
      rw[K7]
      rw[gE] at this
      omega
     obtain⟨w',yP,e1,e2,e3,e4,ho,w9,q1,q2,q3,q4⟩:=kA (P:=P) b ty' fr us (o'+n * pF) 0 w cs g1 g2 hfz (sT VK)
     have lO:Ev H w (H.bH b (.row ty' o' pF (iU.take n++els++iU.drop (n+els.length)))) w':=pO (by rw[hHb];simp) e1 e2 e3 e4 ho (fun cs0 t0 fr0 h0=>by
      rw[g1] at h0
      injection h0 with h0
      injection h0 with x1 x2 x3
      subst x1 x2 x3
      exact⟨w9,_,q1,q2⟩)
     refine⟨_,_,w',_,SE (ty:=ty) a1 c1 hni hE ⟨b,o',none⟩ n c els.length u us fJ AA N8 w' (by simp only[Addr.add_lit];exact yP),uA _,mW hH lO ho ⟨w9,fr,q1,by rw[q2];exact g2,?_,?_⟩,lO,hk⟩
     ·rw[q2,bN,bN,hl1,nD,show n+els.length+(iU.length - (n+els.length))=iU.length by omega]
      exact aGv _ (dI _)
     ·have G5:∀j,w'.cell? ⟨b,j,none⟩=w9[j]?:=fun j=>cell_of_row w' b j w9 ty' fr q1
      have EI:∀j,w.cell? ⟨b,j,none⟩=cs[j]?:=fun j=>cell_of_row w b j cs ty' fr g1
      refine CI (vs:=aIA++us++aZP) ?_ ?_ ?_
      ·intro el DB
       rcases bV.1 DB with h1|h1
       ·rcases bV.1 h1 with h1|h1
        ·exact s8 (pU g4 n) el h1
        ·exact lZ el h1
       ·exact s8 (vI g4 _) el h1
      ·rw[PQ,PQ]
       exact fB (fB (cK lO.kept _ o1) (cK lO.kept _ VK)) (cK lO.kept _ p1)
      ·intro j v hj
       rw[G5]
       rcases oC j (aIA++us).length with kL|GM
       ·rw[r5 kL] at hj
        rcases oC j aIA.length with aYd|aYY
        ·rw[r5 aYd] at hj
         rw[q4 _ (by omega),<-EI]
         exact o3 j v hj
        ·rw[wA aYY] at hj
         rw[show o'+j=o'+n * pF+0+(j - aIA.length) by omega]
         exact q3 _ v hj
       ·rw[wA GM] at hj
        rw[bN] at GM hj
        have hnm:(n+els.length) * pF=n * pF+els.length * pF:=gE _ _ _
        rw[q4 _ (by omega),<-EI,show o'+j=o'+(n+els.length) * pF+(j - (aIA.length+us.length)) by omega]
        exact p3 _ v hj
    ·exact h.elim
   ·exact h.elim
  ·exact h.elim
 ·exact h.elim
end Go.Proofs.YtfiipaodjpiooaaGreatDoor
namespace Go.Proofs.YtfiipaodjpiooaaGreatDoor
open Go.Maps (Keyed)
open Go.RowKit
noncomputable def mX:List (Value×D)->Value->Option D
 |[],_=>none
 |p::m,x=>open Classical in if p.1=x then some p.2 else mX m x
noncomputable def iM:List (Value×D)->Value->D->List (Value×D)
 |[],x,d=>[(x,d)]
 |p::m,x,d=>open Classical in if p.1=x then (x,d)::m else p::iM m x d
theorem kW (x:Value):mX [] x=none:=rfl
theorem pR:∀(m:List (Value×D)) (x:Value) (d:D),mX (iM m x d) x=some d
 |[],x,d=>by simp [iM,mX]
 |p::m,x,d=>by
  simp only[iM]
  split
  ·simp [mX]
  ·rename_i h
   simp only[mX,aA h]
   exact pR m x d
theorem wQ:∀(m:List (Value×D)) {x y:Value} (d:D),x≠y->mX (iM m x d) y=mX m y
 |[],x,y,d,h=>by simp [iM,mX,h]
 |p::m,x,y,d,h=>by
  simp only[iM]
  split
  ·rename_i h2
   simp only[mX,aA h]
   rw[aA (by rw[h2];exact h)]
  ·simp only[mX]
   split
   ·rfl
   ·exact wQ m d h
theorem VT:∀(m:List (Value×D)) (x:Value) (d:D),(iM m x d).map (·.1)=m.map (·.1)/\x∈m.map (·.1)\/(iM m x d).map (·.1)=m.map (·.1)++[x]/\x∉m.map (·.1)
 |[],x,d=>.inr ⟨by simp [iM],by simp⟩
 |p::m,x,d=>by
  simp only[iM]
  split
  ·rename_i h
   exact .inl ⟨by simp [h],by simp [h]⟩
  ·rename_i h
   rcases VT m x d with⟨h1,h2⟩|⟨h1,h2⟩
   ·exact .inl ⟨by simp only[eU,h1],gY _ h2⟩
   ·refine .inr ⟨by simp only[eU,h1,gP],fun h3=>?_⟩
    rcases dJ.1 h3 with h3|h3
    ·exact h h3.symm
    ·exact h2 h3
theorem aCW {m:List (Value×D)} (x:Value) (d:D) (h:(m.map (·.1)).Nodup):((iM m x d).map (·.1)).Nodup:=by
 rcases VT m x d with⟨h1,_⟩|⟨h1,h2⟩
 ·rw[h1];exact h
 ·rw[h1,yI]
  refine⟨h,by simp,fun a ha b hb hab=>?_⟩
  simp only[cR] at hb
  rw[hb] at hab
  rw[hab] at ha
  exact h2 ha
def jI:List D->Option (List Value)
 |[]=>some []
 | .val v::ds=>(jI ds).map (v::·)
 |_=>none
def mB:D->Option Value
 | .val v=>some v
 | .agg cs=>(jI cs).map fun vs=>.agg ⟨vs⟩
 |_=>none
theorem UQ {w:World} {S:Nat->Prop}:∀(cs:List D) (vs us:List Value),jI cs=some vs->aU w S cs us->us=vs
 |[],vs,us,h1,h2=>by
  simp only[aU] at h2
  simp only[jI,oU] at h1
  rw[<-h1,h2]
 |c::cs,vs,us,h1,h2=>by
  simp only[aU] at h2
  obtain⟨u,K9,rfl,_,h3,h4⟩:=h2
  cases c with
  |val v=>
   simp only[jI,PK] at h1
   obtain⟨vs',h5,rfl⟩:=h1
   simp only[D.is] at h3
   rw[h3,UQ cs vs' K9 h5 h4]
  |_=>simp [jI] at h1
theorem VN {w:World} {S:Nat->Prop} {d:D} {k v:Value} (h:mB d=some k) (hd:D.is w S d v):v=k:=by
 cases d with
 |val u=>
  simp only[mB,oU] at h
  simp only[D.is] at hd
  rw[hd,h]
 |agg cs=>
  simp only[mB,PK] at h
  obtain⟨vs,h1,rfl⟩:=h
  simp only[D.is] at hd
  obtain⟨us,rfl,h2⟩:=hd
  rw[UQ cs vs us h1 h2]
 |_=>simp [mB] at h
def aP (P:Program) (t:TypeId):Option Value:=(P.info? t).bind (·.zero)
theorem aCc {P:Program} {t:TypeId} {z:Value} (h:aP P t=some z) (w:World):(zeroValue t).run P w=.ok z w:=by
 unfold aP at h
 obtain⟨i,h1,h2⟩:=Option.bind_eq_some_iff.1 h
 unfold zeroValue typeInfo program
 simp [Sem.run,h1,h2]
def kOK (P:Program) (kt:TypeId) (m:List (Value×D)) (x:Value):Prop:=Keyed P kt/\(∃l,keyOf P kt x=some l)/\∀p∈m,∃l,keyOf P kt p.1=some l
def O6 (P:Program) (H:aC) (t:TypeId) (x ix:D) (ok:Bool) (K:D->Prop):Prop:=
 match bQ P t,x,mB ix with
 |some ⟨.map kt et,_,_,_⟩,.val (.map (some b)),some kv=>(match H b,aP P et with
  |some (.map m),some z=>kOK P kt m kv/\(match mX m kv with
   |some d=>K (if ok then .pG [d,.val (.bool true)] else d)
   |none=>K (if ok then .pG [.val z,.val (.bool false)] else .val z))
  |_,_=>False)
 |_,_,_=>False
def RT (P:Program) (H:aC) (t:TypeId) (x ix d:D) (K:aC->Prop):Prop:=
 match bQ P t,x,mB ix with
 |some ⟨.map kt _,_,_,_⟩,.val (.map (some b)),some kv=>(match H b with
  |some (.map m)=>kOK P kt m kv/\K (H.bH b (.map (iM m kv d)))
  |_=>False)
 |_,_,_=>False
def mmV (H:aC) (K:D->aC->Prop):Prop:=∀b,H b=none->K (.val (.map (some b))) (H.bH b (.map []))
theorem aLp {P:Program} {H:aC} {w:World} (hH:iK w H) {t:TypeId} {K:D->aC->Prop} (h:mmV H K):
  ∃r d' w' H',(Instr.makeMap t none).run P w=.ok r w'/\D.is w' H'.others d' r/\iK w' H'/\Ev H w H' w'/\K d' H':=
 ⟨_,_,w.alloc (.map #[] 0),_,rfl,by simp only[D.is],hH.alloc (x:=.map []) ⟨#[],0,heap_alloc_new w _,rfl,by simp only[nE,aW],by simp,by simp [Stm]⟩,jZ _ _ hH,h _ (jF hH)⟩
theorem YM {es:Array MapEntry} {m:List (Value×D)} (h:es.toList.map (·.key)=m.map (·.1)) {j:Nat} {e:MapEntry} (he:es.toList[j]?=some e):∃p,m[j]?=some p/\p.1=e.key:=by
 have h1:=cS (·[j]?) h
 simp only[dN,he,mG] at h1
 cases hm:m[j]? with
 |none=>rw[hm] at h1;cases h1
 |some p=>rw[hm] at h1;simp at h1;exact⟨p,rfl,h1.symm⟩
theorem VS:∀{m:List (Value×D)} {x:Value},(∀p∈m,p.1≠x)->mX m x=none
 |[],x,_=>rfl
 |p::m,x,h=>by
  simp only[mX,aA (h p AK)]
  exact VS fun q hq=>h q (gY _ hq)
theorem aDr:∀{m:List (Value×D)} {j:Nat} {p:Value×D},(m.map (·.1)).Nodup->m[j]?=some p->mX m p.1=some p.2
 |q::m,0,p,_,h=>by
  simp only[qO,oU] at h
  subst h
  simp [mX]
 |q::m,j+1,p,hn,h=>by
  simp only[AI] at h
  simp only[eU,zT] at hn
  have fM:q.1≠p.1:=fun e=>hn.1 (by rw[e];exact eW.2 ⟨p,iQ h,rfl⟩)
  simp only[mX,aA fM]
  exact aDr hn.2 h
theorem aDs:∀{m:List (Value×D)} {j:Nat} {p:Value×D} {d:D},(m.map (·.1)).Nodup->m[j]?=some p->iM m p.1 d=m.set j (p.1,d)
 |q::m,0,p,d,_,h=>by
  simp only[qO,oU] at h
  subst h
  simp [iM]
 |q::m,j+1,p,d,hn,h=>by
  simp only[AI] at h
  simp only[eU,zT] at hn
  have fM:q.1≠p.1:=fun e=>hn.1 (by rw[e];exact eW.2 ⟨p,iQ h,rfl⟩)
  simp only[iM,aA fM,List.set_cons_succ]
  rw[aDs hn.2 h]
theorem aAw:∀{m:List (Value×D)} {x:Value} {d:D},(∀p∈m,p.1≠x)->iM m x d=m++[(x,d)]
 |[],x,d,_=>rfl
 |p::m,x,d,h=>by
  simp only[iM,aA (h p AK),gP]
  rw[aAw fun q hq=>h q (gY _ hq)]
theorem aMP {w:World} {S:Nat->Prop} {es:Array MapEntry} {m:List (Value×D)} (hv:aW w S (m.map (·.2)) (es.toList.map (·.val))) {j:Nat} {e:MapEntry} {p:Value×D} (he:es.toList[j]?=some e) (hp:m[j]?=some p):D.is w S p.2 e.val:=by
 obtain⟨v,h1,h2⟩:=nL hv j p.2 (by rw[dN,hp] <;> rfl)
 rw[dN,he] at h1
 simp at h1
 rw[h1]
 exact h2
theorem aLn {P:Program} {H:aC} {w:World} (hH:iK w H) {t:TypeId} {x ix:D} {v u:Value} {ok:Bool} {K:D->Prop} (h:O6 P H t x ix ok K) (hx:D.is w H.others x v) (hi:D.is w H.others ix u):
  ∃r d,(Instr.lookup t v u ok).run P w=.ok r w/\D.is w H.others d r/\K d:=by
 unfold O6 at h
 split at h
 ·rename_i kt et _ _ _ b kv hT hkv
  split at h
  ·rename_i m z hb hE
   obtain⟨⟨hKd,⟨lx,hlx⟩,aHI⟩,h⟩:=h
   have ev:=dZ hx
   subst ev
   have eu:=VN hkv hi
   subst eu
   obtain⟨d,i,a1,a2,a3⟩:=eE hT
   injection a3 with a3
   cases d <;> simp [lV] at a3
   obtain⟨rfl,rfl⟩:=a3
   obtain⟨es,cI,h1,h2,h3,h4,h4s⟩:=hH _ _ hb
   have hes:∀e∈es.toList,∃l,keyOf P kt e.key=some l:=fun e he=>by
    obtain⟨j,hj⟩:=AJ he
    obtain⟨p,hp,hpk⟩:=YM h2 hj
    rw[<-hpk]
    exact aHI p (iQ hp)
   have LV:∀(P':Program),(getObj b).run P' w=.ok (.map es cI) w:=fun P'=>by simp [getObj,Sem.run,h1]
   rcases hKd.find w hlx es.toList hes with⟨f1,f2⟩|⟨j,e,f1,f2,f3⟩
   ·have hn:mX m u=none:=VS fun p hp=>by
     obtain⟨j,hj⟩:=AJ hp
     have h5:=cS (·[j]?) h2
     simp only[dN,hj,mG] at h5
     cases he:es.toList[j]? with
     |none=>rw[he] at h5;cases h5
     |some e=>rw[he] at h5;simp at h5;rw[<-h5];exact f2 e (iQ he)
    rw[hn] at h
    simp only at h
    have T9:=aCc hE w
    have hzd:D.is w H.others (.val z) z:=by simp only[D.is]
    refine⟨if ok=true then .tuple #[z,.bool false] else z,_,?_,?_,h⟩
    ·simp only[Instr.lookup,Sem.run_bind,bT a1,Result.andThen,LV,hKd.check w _ hlx,f1,T9,Sem.run_pure]
    ·cases ok
     ·exact hzd
     ·simp only[fO,D.is,aW]
      exact⟨_,rfl,_,_,rfl,hzd,_,_,rfl,rfl,rfl⟩
   ·obtain⟨p,hp,hpk⟩:=YM h2 f2
    have hg:mX m u=some p.2:=by rw[<-f3,<-hpk];exact aDr h4 hp
    rw[hg] at h
    simp only at h
    have hv:=aMP h3 f2 hp
    refine⟨if ok=true then .tuple #[e.val,.bool true] else e.val,_,?_,?_,h⟩
    ·simp only[Instr.lookup,Sem.run_bind,bT a1,Result.andThen,LV,hKd.check w _ hlx,f1,Sem.run_pure]
    ·cases ok
     ·exact hv
     ·simp only[fO,D.is,aW]
      exact⟨_,rfl,_,_,rfl,hv,_,_,rfl,rfl,rfl⟩
  ·exact h.elim
 ·exact h.elim
theorem aAv {es:Array MapEntry} {j:Nat} {e:MapEntry} {v:Value} (he:es.toList[j]?=some e):((es.modify j fun x=>{key:=e.key,val:=v,born:=x.born}).toList.map (·.key))=es.toList.map (·.key)/\((es.modify j fun x=>{key:=e.key,val:=v,born:=x.born}).toList.map (·.val))=(es.toList.map (·.val)).set j v:=by
 have hj:j<es.toList.length:=(mE.1 he).1
 constructor
 ·apply u5
  intro i
  simp only[Array.toList_modify,dN,List.getElem?_modify]
  by_cases h:j=i
  ·subst h;simp [he]
  ·simp [h]
 ·apply u5
  intro i
  simp only[Array.toList_modify,dN,List.getElem?_modify,P0]
  by_cases h:j=i
  ·subst h
   have hj':j<es.size:=by simpa using hj
   simp [he,hj']
  ·simp [h]
theorem aAu {es:Array MapEntry} {j:Nat} {e:MapEntry} {k v:Value} (he:es.toList[j]?=some e):((es.modify j fun x=>{key:=k,val:=v,born:=x.born}).toList.map (·.born))=es.toList.map (·.born):=by
 apply u5
 intro i
 simp only[Array.toList_modify,dN,List.getElem?_modify]
 by_cases h:j=i
 ·subst h;simp [he]
 ·simp [h]
theorem KH {w:World} {S:Nat->Prop}:∀{ds:List D} {vs:List Value} {d:D} {v:Value},aW w S ds vs->D.is w S d v->aW w S (ds++[d]) (vs++[v])
 |[],vs,d,v,h,hd=>by
  simp only[aW] at h
  subst h
  simp only[gZ,aW]
  exact⟨_,_,rfl,hd,rfl⟩
 |d0::ds,vs,d,v,h,hd=>by
  simp only[aW] at h
  obtain⟨u,us,rfl,h1,h2⟩:=h
  simp only[gP,aW]
  exact⟨_,_,rfl,h1,KH h2 hd⟩
theorem NP {w:World} {S:Nat->Prop}:∀{ds:List D} {vs:List Value} {j:Nat} {d:D} {v:Value},aW w S ds vs->D.is w S d v->aW w S (ds.set j d) (vs.set j v)
 |[],vs,j,d,v,h,_=>by
  simp only[aW] at h
  subst h
  simp [aW]
 |d0::ds,vs,0,d,v,h,hd=>by
  simp only[aW] at h
  obtain⟨u,us,rfl,_,h2⟩:=h
  simp only[List.set_cons_zero,aW]
  exact⟨_,_,rfl,hd,h2⟩
 |d0::ds,vs,j+1,d,v,h,hd=>by
  simp only[aW] at h
  obtain⟨u,us,rfl,h1,h2⟩:=h
  simp only[List.set_cons_succ,aW]
  exact⟨_,_,rfl,h1,NP h2 hd⟩
theorem aEE {P:Program} {H:aC} {w:World} (hH:iK w H) {t:TypeId} {x ix d:D} {v u z:Value} {K:aC->Prop} (h:RT P H t x ix d K) (hx:D.is w H.others x v) (hi:D.is w H.others ix u) (hd:D.is w H.others d z):
  ∃w' H',(Instr.mapUpdate t v u z).run P w=.ok () w'/\iK w' H'/\Ev H w H' w'/\K H':=by
 unfold RT at h
 split at h
 ·rename_i kt et _ _ _ b kv hT hkv
  split at h
  ·rename_i m hb
   obtain⟨⟨hKd,⟨lx,hlx⟩,aHI⟩,h⟩:=h
   have ev:=dZ hx
   subst ev
   have eu:=VN hkv hi
   subst eu
   obtain⟨d1,i,a1,a2,a3⟩:=eE hT
   injection a3 with a3
   cases d1 <;> simp [lV] at a3
   obtain⟨rfl,rfl⟩:=a3
   obtain⟨es,cI,h1,h2,h3,h4,h4s⟩:=hH _ _ hb
   have hes:∀e∈es.toList,∃l,keyOf P kt e.key=some l:=fun e he=>by
    obtain⟨j,hj⟩:=AJ he
    obtain⟨p,hp,hpk⟩:=YM h2 hj
    rw[<-hpk]
    exact aHI p (iQ hp)
   have LV:∀(P':Program),(getObj b).run P' w=.ok (.map es cI) w:=fun P'=>by simp [getObj,Sem.run,h1]
   have tU:∀(o:Obj),(setObj b o).run P w=.ok () (w.putObj b o):=fun o=>by simp [setObj,Sem.run,h1,World.putObj]
   have fin:∀(es':Array MapEntry) (c':Nat),es'.toList.map (·.key)=(iM m u d).map (·.1)->(∀{w':World} {S:Nat->Prop},aW w' S (m.map (·.2)) (es.toList.map (·.val))->D.is w' S d z->aW w' S ((iM m u d).map (·.2)) (es'.toList.map (·.val)))->Stm (es'.toList.map (·.born)) c'->
     iK (w.putObj b (.map es' c')) (H.bH b (.map (iM m u d)))/\Ev H w (H.bH b (.map (iM m u d))) (w.putObj b (.map es' c')):=by
    intro es' c' g1 g2 g3
    have aHR:∀c,c≠b->(w.putObj b (.map es' c')).heap[c]?=w.heap[c]?:=fun c hc=>by simp [World.putObj,Array.getElem?_setIfInBounds_ne (Ne.symm hc)]
    have xC:(w.putObj b (.map es' c')).heap[b]?=some (.map es' c'):=by
     have:=(tL.1 h1).1
     simp [World.putObj,this]
    have lO:Ev H w (H.bH b (.map (iM m u d))) (w.putObj b (.map es' c')):=pO (by rw[hb];simp) rfl rfl rfl (by simp [World.putObj]) aHR fun cs t fr h=>by
     rw[h1] at h
     cases h
    exact⟨mW hH lO aHR ⟨es',c',xC,g1,g2 (lW lO.kept _ h3) (qD lO.kept _ hd),aCW _ _ h4,g3⟩,lO⟩
   rcases hKd.find w hlx es.toList hes with⟨f1,f2⟩|⟨j,e,f1,f2,f3⟩
   ·have wO:iM m u d=m++[(u,d)]:=aAw fun p hp=>by
     obtain⟨j,hj⟩:=AJ hp
     have h5:=cS (·[j]?) h2
     simp only[dN,hj,mG] at h5
     cases he:es.toList[j]? with
     |none=>rw[he] at h5;cases h5
     |some e=>rw[he] at h5;simp at h5;rw[<-h5];exact f2 e (iQ he)
    obtain⟨k1,k2⟩:=fin (es.push {key:=u,val:=z,born:=cI}) (cI+1) (by rw[wO];simp [h2]) (fun hv hz=>by
     rw[wO,cQ,Array.toList_push,cQ]
     exact KH hv hz) (by
     rw[Array.toList_push,cQ]
     refine⟨fun b hb=>?_,?_⟩
     ·rcases bV.1 hb with hb|hb
      ·exact Nat.lt_succ_of_lt (h4s.1 b hb)
      ·simp only[eU,nE,cR] at hb
       omega
     ·rw[yI]
      refine⟨h4s.2,by simp,fun a ha b hb e=>?_⟩
      simp only[eU,nE,cR] at hb
      have:=h4s.1 a ha
      omega)
    refine⟨_,_,?_,k1,k2,h⟩
    simp only[Instr.mapUpdate,Sem.run_bind,bT a1,Result.andThen,LV,hKd.check w _ hlx,f1,tU]
   ·obtain⟨p,hp,hpk⟩:=YM h2 f2
    have hpu:p.1=u:=hpk.trans f3
    have wO:iM m u d=m.set j (u,d):=by rw[<-hpu];exact aDs h4 hp
    have fQ:j<m.length:=(mE.1 hp).1
    obtain⟨q1,q2⟩:=aAv (v:=z) f2
    rw[f3] at q1 q2
    obtain⟨k1,k2⟩:=fin (es.modify j fun x=>{key:=u,val:=z,born:=x.born}) cI (by
     rw[q1,h2,wO]
     apply u5
     intro i
     simp only[dN,P0]
     by_cases hi:j=i
     ·subst hi
      have hmj:m[j]=p:=(mE.1 hp).2
      simp [hmj,hpu,fQ]
     ·simp [hi]) (fun hv hz=>by
     rw[q2,wO,K1]
     exact NP hv hz) (by rw[aAu f2];exact h4s)
    refine⟨_,_,?_,k1,k2,h⟩
    have DR:es[j]?=some e:=by simpa using f2
    simp only[Instr.mapUpdate,Sem.run_bind,bT a1,Result.andThen,LV,hKd.check w _ hlx,f1,DR,mG,CY,f3,hKd.stays w hlx,tU]
  ·exact h.elim
 ·exact h.elim
end Go.Proofs.YtfiipaodjpiooaaGreatDoor

