/- Lemmas and contracts of functions, several texts in one. -/
import Derived.Test.YtfiipaodjpiooaaGreatDoorQ03
set_option maxRecDepth 100000
set_option maxHeartbeats 4000000
set_option linter.all false
namespace Go.Proofs.YtfiipaodjpiooaaGreatDoor
open Go.RowKit
theorem aBG {P:Program} {H:aC} {w:World} (hH:iK w H) {b o sz k:Nat} {ty:TypeId} {els new:List (List D)} {us:List Value} {cs:Array Value} {fr:Nat×Nat} (hb:H b=some (.row ty o sz els)) (hw:w.heap[b]?=some (Obj.cells cs ty fr))
  (hn:∀e∈new,e.length=sz) (hu:aU w H.others new.flatten us) (K7:us.length=new.length * sz) (hk:k<=els.length) (N8:o+k * sz+us.length<=cs.size):
  ∃w',(storeCells ⟨b,o+k * sz,none⟩ us).run P w=.ok () w'/\iK w' (H.bH b (.row ty o sz (els.take k++new++els.drop (k+new.length))))/\Ev H w (H.bH b (.row ty o sz (els.take k++new++els.drop (k+new.length)))) w':=by
 obtain⟨cs0,fr0,h1,h2,h3,h4⟩:=hH _ _ hb
 rw[hw] at h1
 injection h1 with h1
 cases h1
 obtain⟨w',yP,e1,e2,e3,e4,ho,w9,g1,g2,g3,g4⟩:=kA (P:=P) b ty fr us (o+k * sz) 0 w cs hw h2 (by omega) (sT hu)
 have lO:Ev H w (H.bH b (.row ty o sz (els.take k++new++els.drop (k+new.length)))) w':=pO (by rw[hb];simp) e1 e2 e3 e4 ho (fun cs0 t0 fr0 h0=>by
  rw[hw] at h0
  injection h0 with h0
  injection h0 with a1 a2 a3
  subst a1 a2 a3
  exact⟨w9,_,g1,g2⟩)
 have wI:(els.take k).length=k:=by rw[dU];omega
 refine⟨w',yP,mW hH lO ho ⟨w9,fr,g1,by rw[g2];exact h2,?_,?_⟩,lO⟩
 ·rw[g2,bN,bN,wI,nD]
  rcases oC els.length (k+new.length) with kL|GM
  ·have:els.length - (k+new.length)=0:=by omega
   rw[this,u6,gE];omega
  ·have:k+new.length+(els.length - (k+new.length))=els.length:=by omega
   rw[this];exact h3
 ·have aAJ:∀j,w'.cell? ⟨b,j,none⟩=w9[j]?:=fun j=>cell_of_row w' b j w9 ty fr g1
  have aGN:∀j,w.cell? ⟨b,j,none⟩=cs[j]?:=fun j=>cell_of_row w b j cs ty fr hw
  have fM:∀j':Nat,j'<o+k * sz\/o+k * sz+us.length<=j'->w'.cell? ⟨b,j',none⟩=w.cell? ⟨b,j',none⟩:=fun j' hj=>by
   rw[aAJ,aGN];exact g4 j' (by omega)
  have GS:∀(i:Nat) (el:List D),els[i]?=some el->(i<k\/k+new.length<=i)->el.length=sz/\dL w' (H.bH b (.row ty o sz (els.take k++new++els.drop (k+new.length)))).others b (o+i * sz) el:=fun i el hi TH=>by
   obtain⟨q1,q2⟩:=fH h4 i el hi
   refine⟨q1,?_⟩
   obtain⟨vs,h5,h6⟩:=fA q2
   refine fD (cK lO.kept _ h5) fun j v hj=>?_
   have hvl:=fC h5
   have fQ:j<sz:=by have:=(mE.1 hj).1;omega
   rw[fM _ ?_]
   ·exact h6 j v hj
   ·rcases TH with TH|TH
    ·left
     have:(i+1) * sz<=k * sz:=lQ _ TH
     rw[gE] at this;omega
    ·right
     have:(k+new.length) * sz<=i * sz:=lQ _ TH
     rw[gE] at this;omega
  refine gO fun i el hi=>?_
  rcases oC i k with TH|TH
  ·rw[iR,r5 (by omega),uS,aE TH] at hi
   exact GS i el hi (.inl TH)
  ·rcases oC i (k+new.length) with aQ2|aQ2
   ·rw[iR,wA (by omega),wI,r5 (by omega)] at hi
    refine⟨hn el (iQ hi),?_⟩
    have h5:=kK sz (kJ ((i - k) * sz) hu)
    rw[Q3 hn hi] at h5
    refine fD (cK lO.kept _ h5) fun j v hj=>?_
    rw[uS] at hj
    split at hj
    ·rw[wX] at hj
     rw[aAJ,<-g3 _ v hj]
     congr 1
     have:k * sz+(i - k) * sz=i * sz:=by rw[<-gE];congr 1;omega
     omega
    ·cases hj
   ·rw[wA (by rw[bN];omega),bN,wI,wX] at hi
    rw[show k+new.length+(i - (k+new.length))=i by omega] at hi
    exact GS i el hi (.inr aQ2)
def DI (P:Program) (H:aC) (t:TypeId) (x:D) (K:D->aC->Prop):Prop:=
 match bQ P t,x with
 |some ⟨.slice e,_,_,_⟩,.os b o sz k n=>(match bQ P e,H b with
  |some ⟨_,DF,_,some zs⟩,some (.row ty o' pF els)=>zs.length=sz/\DF=sz/\pF=sz/\o'=o/\zs.all Value.oneCell'=true/\k<=els.length/\K (.val undef) (H.bH b (.row ty o sz (els.take k)))
  |_,_=>False)
 |_,_=>False
theorem aBN {H:aC} {w:World} {b:Nat} {ty:TypeId} {o sz k:Nat} {els:List (List D)} (h:iK w (H.bH b (.row ty o sz els))):iK w (H.bH b (.row ty o sz (els.take k))):=fun c y hc=>by
 by_cases e:c=b
 ·subst e
  rw[aO] at hc
  injection hc with hc
  subst hc
  obtain⟨cs,fr,h1,h2,h3,h4⟩:=h c _ (aO _ _ _)
  refine⟨cs,fr,h1,h2,?_,gO fun i el hi=>?_⟩
  ·have:(els.take k).length * sz<=els.length * sz:=lQ _ (by rw[dU];omega)
   omega
  ·rw[uS] at hi
   split at hi
   ·obtain⟨q1,q2⟩:=fH h4 i el hi
    refine⟨q1,?_⟩
    obtain⟨vs,h5,h6⟩:=fA q2
    refine fD (cK ⟨dI _,fun b' B7 _=>⟨?_,rfl⟩,fun _ _ _ fr h=>⟨_,fr,h,rfl⟩⟩ _ h5) h6
    unfold aC.others at B7 ⊢
    by_cases e2:b'=c
    ·subst e2;rw[aO] at B7;cases B7
    ·rw[aN e2] at B7 ⊢;exact B7
   ·cases hi
 ·rw[aN e] at hc
  have h0:=h c y (by rw[aN e];exact hc)
  have hk:∀b',(H.bH b (.row ty o sz els)).others b'->(H.bH b (.row ty o sz (els.take k))).others b':=fun b' B7=>by
   unfold aC.others at B7 ⊢
   by_cases e2:b'=b
   ·subst e2;rw[aO] at B7;cases B7
   ·rw[aN e2] at B7 ⊢;exact B7
  have kept:P7 (H.bH b (.row ty o sz els)).others (H.bH b (.row ty o sz (els.take k))).others w w:=⟨dI _,fun b' B7 _=>⟨hk b' B7,rfl⟩,fun _ _ _ fr h=>⟨_,fr,h,rfl⟩⟩
  cases y with
  |row t2 o2 sz2 a1m=>
   obtain⟨cs,fr,h1,h2,h3,h4⟩:=h0
   refine⟨cs,fr,h1,h2,h3,gO fun i el hi=>?_⟩
   obtain⟨q1,q2⟩:=fH h4 i el hi
   refine⟨q1,?_⟩
   obtain⟨vs,h5,h6⟩:=fA q2
   exact fD (cK kept _ h5) h6
  |map mm=>
   obtain⟨es,c2,h1,h2,h3,h4⟩:=h0
   exact⟨es,c2,h1,h2,lW kept _ h3,h4⟩
  |hid=>exact h0
  |obj o=>exact h0
theorem M5 {H:aC} {w w':World} {b:Nat} {x y:fK} (h:Ev H w (H.bH b x) w'):Ev H w (H.bH b y) w':=
 ⟨h.os,h.tape,h.output,h.size,fun c hc hn=>by
  obtain⟨h1,h2⟩:=h.fS c hc hn
  refine⟨h1,?_⟩
  by_cases e:c=b
  ·subst e;rw[aO] at h2;cases h2
  ·rw[aN e] at h2 ⊢;exact h2,h.shape⟩
theorem aIV {P:Program} {H:aC} {w:World} (hH:iK w H) {t ty:TypeId} {x:D} {v:Value} {K:D->aC->Prop} (h:DI P H t x K) (hx:D.is w H.others x v):
  ∃r d' w' H',(Builtin.clear_ #[t] ty #[v]).run P w=.ok r w'/\D.is w' H'.others d' r/\iK w' H'/\Ev H w H' w'/\K d' H':=by
 unfold DI at h
 split at h
 ·rename_i e _ _ _ b o sz k n hT
  split at h
  ·rename_i dE DF byE zs ty' o' pF els hE hb
   obtain⟨NH,rfl,rfl,rfl,aAe,hk,h⟩:=h
   obtain⟨dA,iA,a1,a2,a3⟩:=eE hT
   injection a3 with a3
   cases dA <;> simp [lV] at a3
   subst a3
   obtain⟨cs,fr,h1,h2,h3,h4⟩:=hH _ _ hb
   simp only[D.is] at hx
   obtain⟨A,c,rfl,hc,hA⟩:=hx
   have aAj:(n=0\/A=none)->iK w (H.bH b (.row ty' o' pF (els.take k)))/\Ev H w (H.bH b (.row ty' o' pF (els.take k))) w:=fun _=>by
    have aD5:H.bH b (.row ty' o' pF els)=H:=funext fun c=>by
     by_cases e:c=b
     ·subst e;rw[aO,hb]
     ·rw[aN e]
    exact⟨aBN (by rw[aD5];exact hH),M5 (x:=.row ty' o' pF els) (by rw[aD5];exact fT _ _)⟩
   by_cases hn:n=0
   ·subst hn
    obtain⟨q1,q2⟩:=aAj (.inl rfl)
    refine⟨undef,.val undef,w,_,?_,uA _,q1,q2,h⟩
    cases A <;> simp [Builtin.clear_,bT a1] <;> rfl
   ·rcases hA with hA|⟨rfl,S9,t2,fr2,hw,N8⟩
    ·omega
    ·rw[h1] at hw
     injection hw with hw
     injection hw with b1 b2 b3
     subst b1 b2 b3
     obtain⟨z,T9,hz2⟩:=vK hE rfl w
     have hzc:(Builtin.zeroCells z.cells n).toList=(List.replicate n zs).flatten:=by
      apply u5
      intro i
      have lZ:z.cells.size=zs.length:=by rw[<-hz2,nB]
      have aKH:∀(m i:Nat),((List.replicate m zs).flatten)[i]?=if i<m * zs.length then zs[i % zs.length]? else none:=by
       intro m
       induction m with
       |zero=>intro i;simp
       |succ m ih=>
        intro i
        rw[List.replicate_succ,CX]
        by_cases h:i<zs.length
        ·rw[r5 h,aE (by rw[oY];omega),KV h]
        ·rw[wA (by omega),ih (i - zs.length),oY]
         have:(i - zs.length) % zs.length=i % zs.length:=(Nat.mod_eq_sub_mod (by omega)).symm
         rw[this]
         by_cases h2:i<m * zs.length+zs.length
         ·rw[aE (by omega),aE h2]
         ·rw[aA (by omega),aA h2]
      rw[aKH,KP]
      unfold Builtin.zeroCells
      rw[lZ,KU,PO]
      split
      ·rename_i h
       have hp:0<zs.length:=by
        rcases KS zs.length with h0|h0
        ·rw[h0] at h;simp at h
        ·exact h0
       have hq2:i % z.cells.size<z.cells.size:=Nat.mod_lt _ (by omega)
       simp only[mG]
       rw[<-hz2,nB,KP,C4 z.cells _ hq2,ZR hq2]
      ·rfl
     have aQZ:((List.replicate n (zs.map D.val)).flatten:List D)=(List.replicate n zs).flatten.map .val:=by
      rw[List.map_flatten,KT]
     have fF:∀v∈(List.replicate n zs).flatten,v.oneCell'=true:=fun v hv=>by
      obtain⟨l,hl,hvl⟩:=List.mem_flatten.1 hv
      rw[List.eq_of_mem_replicate hl] at hvl
      exact(eZ.1 aAe) v hvl
     have K7:((List.replicate n zs).flatten).length=(List.replicate n (zs.map D.val)).length * pF:=by
      rw[List.length_flatten,KT,ZV,zL,NH]
     obtain⟨w',g1,g2,g3⟩:=aBG (P:=P) hH (k:=k) (new:=List.replicate n (zs.map .val)) (us:=(List.replicate n zs).flatten) hb h1 (fun e he=>by rw[List.eq_of_mem_replicate he,bC,NH]) (by rw[aQZ];exact xN _ fF) K7 hk (by
      rw[K7,zL]
      have:(k+n) * pF<=(k+c) * pF:=lQ _ (by omega)
      rw[gE] at this
      omega)
     refine⟨undef,.val undef,w',_,?_,uA _,aBN (k:=k) g2 |> fun hh=>?_,M5 g3,h⟩
     ·obtain⟨m,rfl⟩:∃m,n=m+1:=⟨n - 1,by omega⟩
      simp only[Builtin.clear_,yG,qO,Sem.run_bind,bT a1,Result.andThen,T9,hzc,g1,Sem.run_pure]
      rfl
     ·have:(els.take k++List.replicate n (zs.map D.val)++els.drop (k+(List.replicate n (zs.map D.val)).length)).take k=els.take k:=by
       rw[iR,EW (by rw[dU];omega),KY,Nat.min_self]
      rwa[this] at hh
  ·exact h.elim
 ·exact h.elim
def yN (P:Program) (H:aC) (t:TypeId) (x y:D) (K:D->aC->Prop):Prop:=
 match bQ P t,x with
 |some ⟨.slice e,_,_,_⟩,.os b o sz k n=>(match bQ P e,H b with
  |some ⟨_,DF,_,_⟩,some (.row ty o' pF els)=>DF=sz/\pF=sz/\o'=o/\k<=els.length/\n≠0/\mK H sz y fun new=>new.length<=n/\K (.val (.int .i64 (new.length:Int))) (H.bH b (.row ty o sz (els.take k++new++els.drop (k+new.length))))
  |_,_=>False)
 |_,_=>False
theorem aIW {P:Program} {H:aC} {w:World} (hH:iK w H) {t xt ty:TypeId} {x y:D} {v u:Value} {K:D->aC->Prop} (h:yN P H t x y K) (hx:D.is w H.others x v) (hy:D.is w H.others y u):
  ∃r d' w' H',(Builtin.copy_ #[t,xt] ty #[v,u]).run P w=.ok r w'/\D.is w' H'.others d' r/\iK w' H'/\Ev H w H' w'/\K d' H':=by
 unfold yN at h
 split at h
 ·rename_i e _ _ _ b o sz k n hT
  split at h
  ·rename_i dE DF byE zs ty' o' pF els hE hb
   obtain⟨rfl,rfl,rfl,hk,hn,h⟩:=h
   obtain⟨dA,iA,a1,a2,a3⟩:=eE hT
   injection a3 with a3
   cases dA <;> simp [lV] at a3
   subst a3
   obtain⟨new,us,⟨aS,hK⟩,q1,q2,q3,q4,q5⟩:=RU (P:=P) hH h hy
   obtain⟨cs,fr,h1,h2,h3,h4⟩:=hH _ _ hb
   simp only[D.is] at hx
   obtain⟨A,c,rfl,hc,hA⟩:=hx
   rcases hA with hA|⟨rfl,S9,t2,fr2,hw,N8⟩
   ·omega
   ·rw[h1] at hw
    injection hw with hw
    injection hw with b1 b2 b3
    subst b1 b2 b3
    obtain⟨w',g1,g2,g3⟩:=aBG (P:=P) hH (k:=k) (new:=new) (us:=us) hb h1 q1 q2 q3 hk (by
     rw[q3]
     have:(k+new.length) * pF<=(k+c) * pF:=lQ _ (by omega)
     rw[gE] at this
     omega)
    refine⟨_,.val (.int .i64 (new.length:Int)),w',_,?_,uA _,g2,g3,hK⟩
    have aYh:Nat.min new.length n=new.length:=zR aS
    simp only[Builtin.copy_,yG,qO,AI,Sem.run_bind,bT a1,Result.andThen,q4,aYh,gR hE,q5 w rfl,g1,Sem.run_pure]
    rfl
  ·exact h.elim
 ·exact h.elim
def wP (P:Program) (H:aC) (t:TypeId) (x:D) (K:D->Prop):Prop:=
 match bQ P t with
 |some T=>(match T.d,x with
  | .slice _,.seq _ els=>K (.val (.int .i64 (els.length:Int)))
  | .slice _,.os _ _ _ _ n=>K (.val (.int .i64 (n:Int)))
  | .slice _,.val (.slice _ n _)=>K (.val (.int .i64 (n:Int)))
  | .slice _,.TA=>K (.val (.int .i64 0))
  | .string,.val (.string s)=>K (.val (.int .i64 (s.size:Int)))
  | .array n _,_=>K (.val (.int .i64 (n:Int)))
  | .map _ _,.val (.map none)=>K (.val (.int .i64 0))
  | .map _ _,.val (.map (some b))=>(match H b with
   |some (.map m)=>K (.val (.int .i64 (m.length:Int)))
   |_=>False)
  |_,_=>False)
 |none=>False
theorem aIX {P:Program} {H:aC} {w:World} (hH:iK w H) {t ty:TypeId} {x:D} {v:Value} {K:D->Prop} (h:wP P H t x K) (hx:D.is w H.others x v):∃u,(Builtin.len_ #[t] ty #[v]).run P w=.ok u w/\K (.val u):=by
 unfold wP at h
 split at h
 ·rename_i T hT
  obtain⟨d,i,a1,a2,rfl⟩:=eE hT
  simp only at h
  split at h
  ·rename_i e1
   cases d <;> simp [lV] at e1
   simp only[D.is] at hx
   obtain⟨A,c,rfl,_⟩:=hx
   exact⟨_,by simp [Builtin.len_,bT a1,goInt],h⟩
  ·rename_i e1
   cases d <;> simp [lV] at e1
   simp only[D.is] at hx
   obtain⟨A,c,rfl,_⟩:=hx
   exact⟨_,by simp [Builtin.len_,bT a1,goInt],h⟩
  ·rename_i e1
   cases d <;> simp [lV] at e1
   have e:=dZ hx
   subst e
   exact⟨_,by simp [Builtin.len_,bT a1,goInt],h⟩
  ·rename_i e1
   cases d <;> simp [lV] at e1
   simp only[D.is] at hx
   obtain⟨A,rfl⟩:=hx
   exact⟨.int .i64 0,by simp [Builtin.len_,bT a1,goInt],h⟩
  ·rename_i e1
   cases d <;> simp [lV] at e1
   have e:=dZ hx
   subst e
   refine⟨_,?_,h⟩
   unfold Builtin.len_
   simp only[yG,qO,Sem.run_bind,bT a1,Result.andThen,Sem.run_pure]
   rfl
  ·rename_i e1
   cases d <;> simp [lV] at e1
   obtain⟨rfl,rfl⟩:=e1
   exact⟨_,by simp [Builtin.len_,bT a1,goInt],h⟩
  ·rename_i e1
   cases d <;> simp [lV] at e1
   have e:=dZ hx
   subst e
   exact⟨.int .i64 0,by simp [Builtin.len_,bT a1,goInt],h⟩
  ·rename_i e1
   cases d <;> simp [lV] at e1
   have e:=dZ hx
   subst e
   split at h
   ·rename_i m hb
    obtain⟨es,c,h1,h2,h3⟩:=hH _ _ hb
    have hl:es.size=m.length:=by
     have:=cS List.length h2
     simpa using this
    refine⟨_,?_,h⟩
    simp [Builtin.len_,bT a1,getObj,Sem.run,h1,goInt,hl]
   ·exact h.elim
  ·exact h.elim
 ·exact h.elim
def AE (xs:List D) (K:D->Prop):Prop:=
 match xs with
 |[.val (.int k a),.val (.int _ b)]=>K (.val (.int k (min a b)))
 |_=>False
def AD (xs:List D) (K:D->Prop):Prop:=
 match xs with
 |[.val (.int k a),.val (.int _ b)]=>K (.val (.int k (max a b)))
 |_=>False
theorem aIZ {P:Program} {w:World} {S:Nat->Prop} {ts:Array TypeId} {ty:TypeId} {xs:List D} {vs:List Value} {K:D->Prop} (h:AE xs K) (hx:aW w S xs vs):∃u,(Builtin.min_ ts ty ⟨vs⟩).run P w=.ok u w/\K (.val u):=by
 unfold AE at h
 split at h
 ·rename_i k a k' b
  simp only[aW,D.is] at hx
  obtain⟨_,_,rfl,rfl,_,_,rfl,rfl,rfl⟩:=hx
  refine⟨_,rfl,?_⟩
  have:(if b<a then b else a)=min a b:=by split <;> omega
  rw[this]
  exact h
 ·exact h.elim
theorem aIY {P:Program} {w:World} {S:Nat->Prop} {ts:Array TypeId} {ty:TypeId} {xs:List D} {vs:List Value} {K:D->Prop} (h:AD xs K) (hx:aW w S xs vs):∃u,(Builtin.max_ ts ty ⟨vs⟩).run P w=.ok u w/\K (.val u):=by
 unfold AD at h
 split at h
 ·rename_i k a k' b
  simp only[aW,D.is] at hx
  obtain⟨_,_,rfl,rfl,_,_,rfl,rfl,rfl⟩:=hx
  refine⟨_,rfl,?_⟩
  have:(if b>a then b else a)=max a b:=by split <;> omega
  rw[this]
  exact h
 ·exact h.elim
def UD (x:D) (K:D->Prop):Prop:=
 match x with
 | .ep _ _ _ _ _| .rp _| .fn _ _=>K x
 |_=>False
theorem aLq {P:Program} {w:World} {S:Nat->Prop} {ρ:Operand->Value} {o:Oper} {y:Operand} (e:o.op=.nilCheck y) {x:D} {K:D->Prop} (h:UD x K) (hx:D.is w S x (ρ y)):(execOp ρ o).run P w=.ok (.value (ρ y)) w/\K x:=by
 unfold UD at h
 split at h
 ·simp only[D.is] at hx;exact⟨by simp only[execOp,e,hx];rfl,h⟩
 ·simp only[D.is] at hx;obtain⟨b,o',hv,_⟩:=hx;exact⟨by simp only[execOp,e,hv];rfl,h⟩
 ·simp only[D.is] at hx;obtain⟨vs,hv,_⟩:=hx;exact⟨by simp only[execOp,e,hv];rfl,h⟩
 ·exact h.elim
def TV (x:D) (i:Nat) (K:D->Prop):Prop:=
 match x with
 | .pG ds=>(match ds[i]? with
  |some d=>K d
  |none=>False)
 |_=>False
theorem aLj {P:Program} {w:World} {S:Nat->Prop} {x:D} {v:Value} {i:Nat} {K:D->Prop} (h:TV x i K) (hx:D.is w S x v):∃u d,(Instr.extract v i).run P w=.ok u w/\D.is w S d u/\K d:=by
 unfold TV at h
 split at h
 ·split at h
  ·rename_i d hd
   simp only[D.is] at hx
   obtain⟨vs,rfl,hx⟩:=hx
   obtain⟨u,h1,h2⟩:=nL hx i d hd
   refine⟨u,d,?_,h2,h⟩
   unfold Instr.extract
   simp only[yG,h1]
   rfl
  ·exact h.elim
 ·exact h.elim
def ZY (P:Program) (H:aC) (t xt:TypeId) (s x:D) (K:D->aC->Prop):Prop:=
 match bQ P t,bQ P xt,x with
 |some ⟨.slice e,_,_,_⟩,some ⟨.int _,_,_,_⟩,.val (.int _ n)=>(match bQ P e with
  |some ⟨_,sz,uW,some zs⟩=>zs.length=sz/\sz≠0/\uW≠0/\zs.all Value.oneCell'=true/\(match s with
   | .val (.slice none 0 0)| .TA=>0<n/\((n * (uW:Int)<=140737488355328/\∀b,H b=none->K (.os b 0 sz 0 n.toNat) (H.bH b (.row e 0 sz (List.replicate n.toNat (zs.map .val)))))\/
     (n * (uW:Int)<=281474976710656/\∀b c,H b=none->n.toNat<=c->K (.val (.slice (some ⟨b,0,none⟩) n.toNat c)) (H.bH b (.row e 0 sz (List.replicate c (zs.map .val))))))
   | .os b o DF k n'=>DF=sz/\0<=n/\(((n'+n.toNat) * uW:Nat):Int)<=140737488355328/\(match H b with
    |some (.row ty o' pF iU)=>ty=e/\o'=o/\pF=sz/\k+n'<=iU.length/\∀b' o',(H.del b) b'=none->K (.os b' o' sz 0 (n'+n.toNat)) ((H.del b).bH b' (.row e o' sz ((iU.drop k).take n'++List.replicate n.toNat (zs.map .val))))
    |_=>False)
   |_=>False)
  |_=>False)
 |_,_,_=>False
theorem HA {zs:List Value} {z:Array Value} (hz:z.toList=zs) (n j q:Nat) (hj:j<n) (hq:q<zs.length):(Builtin.zeroCells z n)[j * zs.length+q]?=zs[q]?:=by
 have lZ:z.size=zs.length:=by rw[<-hz,nB]
 have kL:j * zs.length+q<n * zs.length:=wR hj hq
 unfold Builtin.zeroCells
 rw[lZ,KU,PO,aE kL]
 simp only[mG]
 rw[Nat.add_comm,Nat.add_mul_mod_self_right,KV hq]
 have hq2:q<z.size:=by omega
 rw[<-hz]
 simp [hq2]
theorem aFg {w:World} {S:Nat->Prop} {b sz k m:Nat} {e:TypeId} {fr:Nat×Nat} {zs:List Value} {z:Array Value} (hz:z.toList=zs) (NH:zs.length=sz) (aAe:zs.all Value.oneCell'=true) (hb:w.heap[b]?=some (Obj.cells (Builtin.zeroCells z m++Builtin.zeroCells z k) e fr)):
  eB w S b sz 0 (List.replicate (m+k) (zs.map .val)):=by
 have hzs:z.size=zs.length:=by rw[<-hz,nB]
 refine gO fun j el hj=>?_
 rw[List.getElem?_replicate] at hj
 split at hj
 ·rename_i fQ
  injection hj with hj
  subst hj
  refine⟨by simp [NH],?_⟩
  refine fD (oO zs (fun v hv=>(eZ.1 aAe) v hv)) fun q v hq=>?_
  have hqz:q<zs.length:=(mE.1 hq).1
  have hm:∀x,(Builtin.zeroCells z x).size=x * zs.length:=fun x=>by simp only[Builtin.zeroCells,Array.size_map,Array.size_range,hzs]
  rw[cell_of_row _ _ _ _ _ _ hb,mI,<-NH]
  by_cases hjm:j<m
  ·have kL:j * zs.length+q<(Builtin.zeroCells z m).size:=by rw[hm];exact wR hjm hqz
   rw[FW kL,HA hz m j q hjm hqz]
   exact hq
  ·have GM:(Builtin.zeroCells z m).size<=j * zs.length+q:=by
    rw[hm]
    have:m * zs.length<=j * zs.length:=lQ _ (by omega)
    omega
   rw[FV GM,hm]
   have hs:j * zs.length+q - m * zs.length=(j - m) * zs.length+q:=by
    rw[Nat.sub_mul]
    have:m * zs.length<=j * zs.length:=lQ _ (by omega)
    omega
   rw[hs,HA hz k (j - m) q (by omega) hqz]
   exact hq
 ·cases hj
theorem M7 (zs:List Value):∀(m i:Nat),((List.replicate m zs).flatten)[i]?=if i<m * zs.length then zs[i % zs.length]? else none
 |0,i=>by simp
 |m+1,i=>by
  rw[List.replicate_succ,CX]
  by_cases h:i<zs.length
  ·rw[r5 h,aE (by rw[oY];omega),KV h]
  ·rw[wA (by omega),M7 zs m (i - zs.length),oY]
   have:(i - zs.length) % zs.length=i % zs.length:=(Nat.mod_eq_sub_mod (by omega)).symm
   rw[this]
   by_cases h2:i<m * zs.length+zs.length
   ·rw[aE (by omega),aE h2]
   ·rw[aA (by omega),aA h2]
theorem S5 {zs:List Value} {z:Array Value} (hz:z.toList=zs) (m:Nat):(Builtin.zeroCells z m).toList=(List.replicate m zs).flatten:=by
 have lZ:z.size=zs.length:=by rw[<-hz,nB]
 apply u5
 intro i
 rw[M7,KP]
 unfold Builtin.zeroCells
 rw[lZ,KU,PO]
 split
 ·rename_i h
  have hp:0<zs.length:=by
   rcases KS zs.length with h0|h0
   ·rw[h0] at h;simp at h
   ·exact h0
  have hq2:i % z.size<z.size:=Nat.mod_lt _ (by omega)
  simp only[mG]
  rw[<-hz,nB,KP,C4 z _ hq2,ZR hq2]
 ·rfl
theorem OH {P:Program} {w:World} {t xt ty e:TypeId} {kx kn:IntKind} {E:Ti} {zs:List Value} (ht:P.underlying t=some (.slice e)) (hxt:P.underlying xt=some (.int kx))
  (hE:bQ P e=some E) (hz:E.zero=some zs) (NH:zs.length=E.size) (A:Option Addr) (n c m:Nat) (GS:List Value)
  (hold:∀W:World,W.heap=w.heap->(Builtin.firstCells E.size n (.slice A n c)).run P W=.ok ⟨GS⟩ W) (wN:E.bytes≠0) (hb:(n+m) * E.bytes<=140737488355328):
  (n+m<=c->∀w',(match A with|some a=>storeCells (a.add (n * E.size)) (List.replicate m zs).flatten|none=>pure ():Sem Unit).run P w=.ok () w'->(Builtin.append_ #[t,xt] ty #[.slice A n c,.int kn (m:Int)]).run P w=.ok (.slice A (n+m) c) w')/\
  (c<n+m->∃cap eJ,n+m<=cap/\(Builtin.append_ #[t,xt] ty #[.slice A n c,.int kn (m:Int)]).run P w=.ok (.slice (some ⟨w.heap.size,0,none⟩) (n+m) cap) (w.drew.alloc (Obj.cells ⟨GS++(List.replicate m zs).flatten++eJ⟩ e))/\eJ.length=(cap - (n+m)) * zs.length):=by
 obtain⟨i,b1,b2,b3,b4,b5⟩:=rH hE w
 have U0:∀W,(typeInfo e).run P W=.ok i W:=fun W=>by
  obtain⟨i',c1,_,_,_,c5⟩:=rH hE W
  rw[b5] at c5
  injection c5 with c5
  subst c5
  exact c1
 have sQ:m * E.bytes<=140737488355328:=qQ (lQ _ (by omega)) hb
 have aYj:n+m<=140737488355328:=qQ (Nat.le_mul_of_pos_right _ (Nat.pos_of_ne_zero wN)) hb
 have K8:IntKind.i64.wrap (m:Int)=(m:Int):=by rw[IntKind.wrap_i64];omega
 have hn3:¬((m:Int)<0):=by omega
 have hn4:¬((m:Int) * (i.bytes:Int)>2 ^ 48):=by
  rw[<-b3]
  have:((m * E.bytes:Nat):Int)<=140737488355328:=by omega
  rw[Int.natCast_mul] at this
  omega
 have N3:∀W,(if m * E.size=0 then pure #[] else do pure (Builtin.zeroCells (<-zeroValue e).cells m):Sem (Array Value)).run P W=.ok ⟨(List.replicate m zs).flatten⟩ W:=fun W=>by
  obtain⟨z,T9,hz2⟩:=vK hE hz W
  split
  ·rename_i h0
   rw[Sem.run_pure]
   have:(List.replicate m zs).flatten=[]:=iX (by
    rw[List.length_flatten,KT,ZV,NH]
    exact h0)
   rw[this]
  ·simp only[Sem.run_bind,T9,Result.andThen,Sem.run_pure]
   congr 1
   apply n9
   exact S5 hz2 m
 constructor
 ·intro aS w' nI
  unfold Builtin.append_
  simp only[yG,qO,AI,Sem.run_bind,bT ht,bT hxt,Result.andThen,gR hE,fO,asInt,asIntOf,K8,aA hn3,U0,aA hn4,bI,Sem.run_pure,aE aS,rN,mF,fW,N3]
  cases A with
  |none=>
   simp only[Sem.run_pure] at nI ⊢
   injection nI with _ nI
   subst nI
   rfl
  |some a=>
   simp only at nI ⊢
   simp only[Sem.run_bind,nI,Result.andThen,Sem.run_pure]
 ·intro kL
  have YE:¬(n+m<=c):=by omega
  have hn1:¬(((n+m:Nat):Int)>IntKind.i64.max/\(True\/i.bytes=0)):=by
   rintro⟨h1,_⟩
   have:IntKind.i64.max=9223372036854775807:=by decide
   omega
  have N8:=growslice_fits kL hb
  have hn2:¬(Builtin.nextslicecap (n+m) c * i.bytes>2 ^ 48):=by rw[<-b3];omega
  obtain⟨cap,aA7⟩:∃cap,cap=(Question.appendCap (n+m) c e).cut (w.tape w.drawn (.appendCap (n+m) c e)):=⟨_,rfl⟩
  have GM:n+m<=cap:=by rw[aA7];simp [Question.cut]
  have JM:(choose (.appendCap (n+m) c e)).run P w=.ok cap w.drew:=by
   rw[aA7]
   simp only[choose,Sem.run,Question.forced]
   rfl
  have aGs:∀k W,(askRoom k).run P W=.ok () W:=fun k W=>by
   unfold askRoom
   split <;> rfl
  obtain⟨z,T9,hz2⟩:=vK hE hz w.drew
  refine⟨cap,(Builtin.zeroCells z.cells (cap - (n+m))).toList,GM,?_,by simp [Builtin.zeroCells,<-hz2]⟩
  have aNd:(⟨GS⟩:Array Value)++⟨(List.replicate m zs).flatten⟩++Builtin.zeroCells z.cells (cap - (n+m))=⟨GS++(List.replicate m zs).flatten++(Builtin.zeroCells z.cells (cap - (n+m))).toList⟩:=n9 (by simp)
  unfold Builtin.append_
  simp only[yG,qO,AI,Sem.run_bind,bT ht,bT hxt,Result.andThen,gR hE,fO,asInt,asIntOf,K8,aA hn3,U0,aA hn4,bI,Sem.run_pure,aA YE,aA hn1,aA hn2,JM,aGs,hold w.drew rfl,rN,mF,fW,N3,T9,newRow,newObj,Sem.run]
  rw[aNd]
  rfl
theorem aLb {P:Program} {H:aC} {w:World} (hH:iK w H) {t xt ty:TypeId} {s x:D} {v u:Value} {K:D->aC->Prop} (h:ZY P H t xt s x K) (hs:D.is w H.others s v) (hx:D.is w H.others x u):
  ∃r d' w' H',(Builtin.append_ #[t,xt] ty #[v,u]).run P w=.ok r w'/\D.is w' H'.others d' r/\iK w' H'/\Ev H w H' w'/\K d' H':=by
 unfold ZY at h
 split at h
 ·rename_i e _ _ _ kx _ _ _ kn n hT hX
  have ex:=dZ hx
  subst ex
  split at h
  ·rename_i dE sz uW zs hE
   obtain⟨NH,HT,wN,aAe,h⟩:=h
   obtain⟨d,i,a1,a2,a3⟩:=eE hT
   injection a3 with a3
   cases d <;> simp [lV] at a3
   subst a3
   obtain⟨dx,ix,c1,c2,c3⟩:=eE hX
   injection c3 with c3
   cases dx <;> simp [lV] at c3
   rcases(show(∃b o DF k n',s=.os b o DF k n')\/¬∃b o DF k n',s=.os b o DF k n' from Classical.em _) with⟨b,o,DF,k,n',rfl⟩|aYn
   ·simp only at h
    obtain⟨rfl,hn,hb,h⟩:=h
    obtain⟨m,rfl⟩:∃m:Nat,n=(m:Int):=Int.eq_ofNat_of_zero_le hn
    split at h
    ·rename_i ty' o' pF iU hHb
     obtain⟨rfl,rfl,rfl,aS,h⟩:=h
     simp only[D.is] at hs
     obtain⟨A,c,rfl,hnc,hA⟩:=hs
     rw[bI] at hb h
     have BT:(List.replicate m (zs.map D.val)).length=m:=zL
     have mM:(List.replicate m (zs.map D.val)).flatten=((List.replicate m zs).flatten).map .val:=by
      rw[List.map_flatten,KT]
     refine aDy (els:=List.replicate m (zs.map .val)) (us:=(List.replicate m zs).flatten) hH (ty:=ty') hHb aS NH (by rw[BT];exact h) hnc hA (fun e he=>by rw[(PU.1 he).2,bC,NH]) ?_ (by rw[BT,List.length_flatten,KT,ZV,NH]) fun GS hold=>?_
     ·rw[mM]
      refine oO _ fun v hv=>?_
      obtain⟨l,hl,hv⟩:=List.mem_flatten.1 hv
      rw[(PU.1 hl).2] at hv
      exact(eZ.1 aAe) v hv
     ·rw[BT]
      exact OH (P:=P) (w:=w) (ty:=ty) a1 c1 hE rfl NH A n' c m GS hold wN (Int.ofNat_le.1 hb)
    ·exact h.elim
   obtain⟨A,rfl,hn,hk⟩:∃A,v=.slice A 0 0/\0<n/\((n * (uW:Int)<=140737488355328/\∀b,H b=none->K (.os b 0 sz 0 n.toNat) (H.bH b (.row e 0 sz (List.replicate n.toNat (zs.map .val)))))\/
     (n * (uW:Int)<=281474976710656/\∀b c,H b=none->n.toNat<=c->K (.val (.slice (some ⟨b,0,none⟩) n.toNat c)) (H.bH b (.row e 0 sz (List.replicate c (zs.map .val)))))):=by
    split at h
    ·exact⟨none,dZ hs,h⟩
    ·simp only[D.is] at hs
     obtain⟨A,rfl⟩:=hs
     exact⟨A,rfl,h⟩
    ·exact(aYn ⟨_,_,_,_,_,rfl⟩).elim
    ·exact h.elim
   obtain⟨m,rfl⟩:∃m:Nat,n=(m:Int):=Int.eq_ofNat_of_zero_le (by omega)
   have hm:0<m:=by omega
   have sQ:m * uW<=281474976710656:=by
    have:((m * uW:Nat):Int)<=281474976710656:=by
     rw[Int.natCast_mul]
     rcases hk with hk|hk
     ·exact Int.le_trans hk.1 (by omega)
     ·exact hk.1
    omega
   have aYj:m<=281474976710656:=qQ (Nat.le_mul_of_pos_right m (Nat.pos_of_ne_zero wN)) sQ
   obtain⟨ii,b1,b2,b3,b4,b5⟩:=rH hE w
   simp only at b3
   have U0:∀W,(typeInfo e).run P W=.ok ii W:=fun W=>by
    obtain⟨i',d1,_,_,_,d5⟩:=rH hE W
    rw[b5] at d5
    injection d5 with d5
    subst d5
    exact d1
   have EN:Builtin.nextslicecap (0+m) 0=m:=by
    unfold Builtin.nextslicecap
    rw[aE (by omega),mI]
   have K8:IntKind.i64.wrap (m:Int)=(m:Int):=by rw[IntKind.wrap_i64];omega
   have YE:¬(0+m<=0):=by omega
   have hn1:¬(((0+m:Nat):Int)>IntKind.i64.max/\(True\/ii.bytes=0)):=by
    rintro⟨h1,_⟩
    have:IntKind.i64.max=9223372036854775807:=by decide
    omega
   have hn2:¬(Builtin.nextslicecap (0+m) 0 * ii.bytes>2 ^ 48):=by rw[EN,<-b3];omega
   have hn3:¬((m:Int)<0):=by omega
   have hn4:¬((m:Int) * (ii.bytes:Int)>2 ^ 48):=by
    rw[<-b3]
    have:((m * uW:Nat):Int)<=281474976710656:=by omega
    rw[Int.natCast_mul] at this
    omega
   have hn5:¬(m * sz=0):=by
    intro h0
    rcases Nat.mul_eq_zero.1 h0 with h1|h1 <;> omega
   obtain⟨cap,aA7⟩:∃cap,cap=(Question.appendCap (0+m) 0 e).cut (w.tape w.drawn (.appendCap (0+m) 0 e)):=⟨_,rfl⟩
   have GM:0+m<=cap:=by rw[aA7];simp [Question.cut]
   have JM:(choose (.appendCap (0+m) 0 e)).run P w=.ok cap w.drew:=by
    rw[aA7]
    simp only[choose,Sem.run,Question.forced]
    rfl
   have aGs:∀k W,(askRoom k).run P W=.ok () W:=fun k W=>by
    unfold askRoom
    split <;> rfl
   obtain⟨z,T9,hz2⟩:=vK hE rfl w.drew
   have hzs:z.cells.size=zs.length:=by rw[<-nB,hz2]
   have hfc:∀W,(Builtin.firstCells sz 0 (.slice A 0 0)).run P W=.ok #[] W:=fun W=>by cases A <;> simp [Builtin.firstCells,loadCells,loadCellsFrom]
   have yP:(Builtin.append_ #[t,xt] ty #[.slice A 0 0,.int kn (m:Int)]).run P w=.ok (.slice (some ⟨w.heap.size,0,none⟩) (0+m) cap) (w.drew.alloc (Obj.cells (Builtin.zeroCells z.cells m++Builtin.zeroCells z.cells (cap - (0+m))) e)):=by
    unfold Builtin.append_
    simp only[yG,qO,AI,Sem.run_bind,bT a1,bT c1,Result.andThen,gR hE,fO,asInt,asIntOf,K8,aA hn3,U0,aA hn4,bI,Sem.run_pure,aA YE,aA hn1,aA hn2,JM,aGs,hfc,rN,mF,fW,aA hn5,T9,newRow,newObj,Sem.run]
    rw[Array.empty_append]
    rfl
   have NA:(Builtin.zeroCells z.cells m++Builtin.zeroCells z.cells (cap - (0+m))).size=cap * sz:=by
    simp only[Array.size_append,Builtin.zeroCells,Array.size_map,Array.size_range]
    rw[hzs,NH,<-gE]
    congr 1
    omega
   have G7:∀S,eB (w.drew.alloc (Obj.cells (Builtin.zeroCells z.cells m++Builtin.zeroCells z.cells (cap - (0+m))) e)) S w.heap.size sz 0 (List.replicate cap (zs.map .val)):=fun S=>by
    have:=aFg (S:=S) (k:=cap - (0+m)) (m:=m) hz2 NH aAe (heap_alloc_new w.drew (Obj.cells (Builtin.zeroCells z.cells m++Builtin.zeroCells z.cells (cap - (0+m))) e))
    rwa[show m+(cap - (0+m))=cap by omega] at this
   rcases hk with⟨_,hk⟩|⟨_,hk⟩
   ·refine⟨_,_,_,_,yP,?_,?_,(sV H w).trans (jZ _ _ hH.drew),hk w.heap.size (jF hH)⟩
    ·simp only[D.is,bI]
     refine⟨_,_,by rw[mI],by omega,.inr ⟨by simp,_,e,(0,0),heap_alloc_new w.drew _,?_⟩⟩
     rw[NA,mI,mI]
     exact dI _
    ·refine iK.alloc hH.drew ⟨_,(0,0),heap_alloc_new w.drew _,aAY _,?_,?_⟩
     ·rw[NA,zL,bI,mI]
      exact lQ _ (by omega)
     ·have h1:∀S,eB (w.drew.alloc (Obj.cells (Builtin.zeroCells z.cells m++Builtin.zeroCells z.cells (cap - (0+m))) e)) S w.heap.size sz 0 (List.replicate m (zs.map .val)):=fun S=>by
       have:=pU (G7 S) m
       rwa[List.take_replicate,zR (by omega)] at this
      exact h1 _
   ·refine⟨_,_,_,_,yP,?_,?_,(sV H w).trans (jZ _ _ hH.drew),hk w.heap.size cap (jF hH) (by omega)⟩
    ·simp only[D.is,bI,mI]
    ·refine iK.alloc hH.drew ⟨_,(0,0),heap_alloc_new w.drew _,aAY _,?_,?_⟩
     ·rw[NA,zL,mI]
      exact dI _
     ·exact G7 _
  ·exact h.elim
 ·exact h.elim
def cpV (x:D) (K:D->Prop):Prop:=
 match x with
 | .val (.slice _ _ c)=>K (.val (.int .i64 (c:Int)))
 | .TA=>K (.val (.int .i64 0))
 |_=>False
def St.G3 (s:St) (xs:Array Operand):List D:=xs.toList.map s.ev
def St.parts (s:St) (ps:Array (Nat×Operand)):List (Nat×D):=ps.toList.map fun p=>(p.1,s.ev p.2)
theorem dF.aEx {cx:Cx} {s:St} {a:Act} {w:World} (m:dF cx s a w) (xs:Array Operand):aW w s.H.others (s.G3 xs) (xs.map a.eval).toList:=by
 unfold St.G3
 rw[Array.toList_map]
 induction xs.toList with
 |nil=>simp [aW]
 |cons x l ih=>simp only[eU,aW];exact⟨_,_,rfl,m.xS x,ih⟩
theorem dF.R3 {cx:Cx} {s:St} {a:Act} {w:World} (m:dF cx s a w) (ps:Array (Nat×Operand)):oV w s.H.others (s.parts ps) (ps.map fun (i,x)=>(i,a.eval x)).toList:=by
 unfold St.parts
 rw[Array.toList_map]
 induction ps.toList with
 |nil=>simp [oV]
 |cons p l ih=>
  obtain⟨i,x⟩:=p
  simp only[eU,oV]
  exact⟨_,_,rfl,m.xS x,ih⟩
theorem dF.aPA {cx:Cx} {s:St} {a:Act} {w:World} (m:dF cx s a w) (x:Option Operand):NK w s.H.others (x.map s.ev) (x.map a.eval):=by
 cases x with
 |none=>trivial
 |some x=>exact m.xS x
def QF (P:Program) (s:St) (b:Builtin) (args:List D) (ts:Array TypeId) (K:D->aC->Prop):Prop:=
 match b,args with
 | .append,[x,y]=>(match ts.toList with
  |[t,xt]=>(match bQ P xt with
   |some ⟨.int _,_,_,_⟩=>ZY P s.H t xt x y K
   |_=>WX P s.H t xt x y K)
  |_=>False)
 | .cap,[x]=>(match ts.toList with
  |[t]=>(match bQ P t with
   |some ⟨.slice _,_,_,_⟩=>cpV x fun d=>K d s.H
   |_=>False)
  |_=>False)
 | .len,[x]=>(match ts.toList with
  |[t]=>wP P s.H t x fun d=>K d s.H
  |_=>False)
 | .min,xs=>AE xs fun d=>K d s.H
 | .max,xs=>AD xs fun d=>K d s.H
 | .clear,[x]=>(match ts.toList with
  |[t]=>DI P s.H t x K
  |_=>False)
 | .copy,[x,y]=>(match ts.toList with
  |[t,_]=>yN P s.H t x y K
  |_=>False)
 |_,_=>False
theorem aLd {P:Program} {s:St} {w:World} (hH:iK w s.H) {b:Builtin} {args:List D} {vs:List Value} {ts:Array TypeId} {ty:TypeId} {cs:Array Bool} {K:D->aC->Prop} (h:QF P s b args ts K) (hx:aW w s.H.others args vs):
  ∃r d' w' H',(builtin b ts ty cs ⟨vs⟩).run P w=.ok (.value r) w'/\D.is w' H'.others d' r/\iK w' H'/\Ev s.H w H' w'/\K d' H':=by
 have uM:∀{sm:Sem Value} {r:Value} {w':World},sm.run P w=.ok r w'->(do pure (Next.value (<-sm)):Sem Next).run P w=.ok (.value r) w':=fun h=>by
  simp only[Sem.run_bind,h,Result.andThen,Sem.run_pure]
 unfold QF at h
 split at h
 ·split at h
  ·rename_i t xt hts
   simp only[aW] at hx
   obtain⟨v,_,rfl,hv,u,_,rfl,hu,rfl⟩:=hx
   have e:ts= #[t,xt]:=n9 (by simpa using hts)
   subst e
   split at h
   ·obtain⟨r,d',w',H',h1,h2,h3,h4,h5⟩:=aLb (ty:=ty) hH h hv hu
    exact⟨r,d',w',H',uM h1,h2,h3,h4,h5⟩
   ·obtain⟨r,d',w',H',h1,h2,h3,h4,h5⟩:=aLa (ty:=ty) hH h hv hu
    exact⟨r,d',w',H',uM h1,h2,h3,h4,h5⟩
  ·exact h.elim
 ·split at h
  ·rename_i t hts
   split at h
   ·rename_i hT
    obtain⟨dd,ii,a1,a2,a3⟩:=eE hT
    injection a3 with a3
    cases dd <;> simp [lV] at a3
    simp only[aW] at hx
    obtain⟨v,_,rfl,hv,rfl⟩:=hx
    have e:ts= #[t]:=n9 (by simpa using hts)
    subst e
    unfold cpV at h
    split at h
    ·have e:=dZ hv
     subst e
     exact⟨_,_,w,s.H,uM (by simp [Builtin.cap_,bT a1,goInt]),uA _,hH,fT _ _,h⟩
    ·simp only[D.is] at hv
     obtain⟨A,rfl⟩:=hv
     exact⟨.int .i64 0,_,w,s.H,uM (by simp [Builtin.cap_,bT a1,goInt]),uA _,hH,fT _ _,h⟩
    ·exact h.elim
   ·exact h.elim
  ·exact h.elim
 ·split at h
  ·rename_i t hts
   simp only[aW] at hx
   obtain⟨v,_,rfl,hv,rfl⟩:=hx
   have e:ts= #[t]:=n9 (by simpa using hts)
   subst e
   obtain⟨u,h1,h2⟩:=aIX (ty:=ty) hH h hv
   exact⟨u,_,w,s.H,uM h1,uA _,hH,fT _ _,h2⟩
  ·exact h.elim
 ·obtain⟨u,h1,h2⟩:=aIZ (P:=P) (ts:=ts) (ty:=ty) h hx
  exact⟨u,_,w,s.H,uM h1,uA _,hH,fT _ _,h2⟩
 ·obtain⟨u,h1,h2⟩:=aIY (P:=P) (ts:=ts) (ty:=ty) h hx
  exact⟨u,_,w,s.H,uM h1,uA _,hH,fT _ _,h2⟩
 ·split at h
  ·rename_i t hts
   simp only[aW] at hx
   obtain⟨v,_,rfl,hv,rfl⟩:=hx
   have e:ts= #[t]:=n9 (by simpa using hts)
   subst e
   obtain⟨r,d',w',H',h1,h2,h3,h4,h5⟩:=aIV (ty:=ty) hH h hv
   exact⟨r,d',w',H',uM h1,h2,h3,h4,h5⟩
  ·exact h.elim
 ·split at h
  ·rename_i t xt hts
   simp only[aW] at hx
   obtain⟨v,_,rfl,hv,u,_,rfl,hu,rfl⟩:=hx
   have e:ts= #[t,xt]:=n9 (by simpa using hts)
   subst e
   obtain⟨r,d',w',H',h1,h2,h3,h4,h5⟩:=aIW (xt:=xt) (ty:=ty) hH h hv hu
   exact⟨r,d',w',H',uM h1,h2,h3,h4,h5⟩
  ·exact h.elim
 ·exact h.elim
def W8 (P:Program) (s:St) (c:Call) (K:D->aC->Prop) (other:Prop):Prop:=
 match c.callee with
 | .value f=>(match s.ev f with
  | .fn g eL=>bE P g (s.G3 c.args++eL) s.H K
  |_=>other)
 | .builtin b=>QF P s b (s.G3 c.args) c.argTypes K
 |_=>other
theorem EU {w:World} {S:Nat->Prop}:∀{cs ds:List D} {vs us:List Value},aW w S cs vs->aW w S ds us->aW w S (cs++ds) (vs++us)
 |[],ds,vs,us,h,h'=>by simp only[aW] at h;subst h;exact h'
 |d::cs,ds,vs,us,h,h'=>by
  simp only[aW] at h
  obtain⟨u,K9,rfl,h2,h⟩:=h
  simp only[gP,aW]
  exact⟨u,_,rfl,h2,EU h h'⟩
def yQ (P:Program) (op:BinOp) (t:TypeId) (n:Nat) (K:D->Prop):Prop:=match bQ P t with
 |some ⟨.slice _,_,_,_⟩=>∀b,(n≠0->b=false)->oL op b K
 |_=>False
def U2 (P:Program) (op:BinOp) (t:TypeId) (x y:D) (K:D->Prop):Prop:=
 match x,y with
 | .seq _ els,.val (.slice none _ _)=>yQ P op t els.length K
 | .os _ _ _ _ n,.val (.slice none _ _)=>yQ P op t n K
 | .TA,.val (.slice none _ _)=>yQ P op t 0 K
 |x,y=>yM P op t x y K
theorem YT {P:Program} {op:BinOp} {t:TypeId} {n:Nat} {x:D} {K:D->Prop} (hn:∀b,x.nK=some b->n≠0/\b=false) (h:qE P op t x K):yQ P op t n K:=by
 unfold qE at h
 unfold yQ
 split at h
 ·rename_i hT hb
  rw[hT]
  intro b VG
  obtain⟨h1,rfl⟩:=hn _ hb
  rw[VG h1]
  exact h
 ·exact h.elim
theorem aNP {P:Program} {op:BinOp} {t:TypeId} {x y:D} {K:D->Prop} (h:yM P op t x y K):U2 P op t x y K:=by
 unfold U2
 split
 ·refine YT (x:=.seq _ _) (fun b hb=>?_) h
  simp only[D.nK] at hb
  split at hb
  ·cases hb
  ·rename_i fM;injection hb with hb;exact⟨fM,hb.symm⟩
 ·refine YT (x:=.os _ _ _ _ _) (fun b hb=>?_) h
  simp only[D.nK] at hb
  split at hb
  ·cases hb
  ·rename_i fM;injection hb with hb;exact⟨fM,hb.symm⟩
 ·exact YT (x:=.TA) (fun b hb=>by simp [D.nK] at hb) h
 ·exact h
theorem SF {P:Program} {w:World} {op:BinOp} {t:TypeId} {p q:Operand} {k m c1 n c:Nat} {A:Option Addr} {K:D->Prop} (h:yQ P op t k K) (hA:k≠0->A.isNone=false):
  ∃u,(do eqGuard op t p q (.slice A m c1) (.slice none n c);binOp op t (.slice A m c1) (.slice none n c)).run P w=.ok u w/\K (.val u):=by
 unfold yQ at h
 split at h
 ·rename_i hT
  obtain⟨d,i,h1,h2,h3⟩:=eE hT
  injection h3 with h3
  cases d <;> simp [lV] at h3
  subst h3
  have hg:(eqGuard op t p q (.slice A m c1) (.slice none n c)).run P w=.ok () w:=rS (.inl (by simp))
  simp only[Sem.run_bind,hg,Result.andThen]
  exact FK (h A.isNone hA) (QW 9999 h1 A m c1 n c) rfl rfl
 ·exact h.elim
theorem aLe {P:Program} {w:World} {S:Nat->Prop} {op:BinOp} {t:TypeId} {x y:D} {a b:Value} {p q:Operand} {K:D->Prop} (h:U2 P op t x y K) (hx:D.is w S x a) (hy:D.is w S y b):
  ∃u,(do eqGuard op t p q a b;binOp op t a b).run P w=.ok u w/\K (.val u):=by
 unfold U2 at h
 split at h
 ·have e2:=dZ hy
  subst e2
  simp only[D.is] at hx
  obtain⟨A,c,rfl,h1,h2⟩:=hx
  refine SF h fun fM=>?_
  rcases h2 with h2|⟨_,_,rfl,_⟩
  ·subst h2;exact absurd rfl fM
  ·rfl
 ·have e2:=dZ hy
  subst e2
  simp only[D.is] at hx
  obtain⟨A,c,rfl,h1,h2⟩:=hx
  refine SF h fun fM=>?_
  rcases h2 with h2|⟨rfl,_⟩
  ·omega
  ·rfl
 ·have e2:=dZ hy
  subst e2
  simp only[D.is] at hx
  obtain⟨A,rfl⟩:=hx
  exact SF h fun fM=>absurd rfl fM
 ·exact aIU h hx hy
def U8 (P:Program) (H:aC) (a b:TypeId) (x:D) (K:D->Prop):Prop:=
 match x with
 | .os blk _ _ _ n=>(match bQ P a,bQ P b with
  |some ⟨.slice e,_,_,_⟩,some ⟨.slice _,_,_,_⟩=>a=b/\n≠0/\(match bQ P e with
   |some ⟨.int .u8,_,_,_⟩=>(match H blk with
    |some (.row _ _ _ _)=>K x
    |_=>False)
   |_=>False)
  |_,_=>K3 P H a b x K)
 |_=>K3 P H a b x K
theorem aGW {P:Program} {H:aC} {a b:TypeId} {x:D} {K:D->Prop} (h:K3 P H a b x K):U8 P H a b x K:=by
 unfold U8
 split
 ·split
  ·rename_i hA hB
   unfold K3 at h
   rw[hA,hB] at h
   exact h.elim
  ·exact h
 ·exact h
theorem XU {w:World} {b k:Nat} {cs:Array Value} {t:TypeId} {fr:Nat×Nat} (hb:w.heap[b]?=some (Obj.cells cs t fr)):(w.freeze ⟨b,k,none⟩ 1).heap[b]?=some (Obj.cells cs t (if fr.1==fr.2 then (k,k+1) else (min fr.1 k,max fr.2 (k+1)))):=by
 unfold World.freeze
 rw[aA (by decide)]
 simp [CT,hb]
theorem JG {w:World} {b c k:Nat} (h:c≠b):(w.freeze ⟨b,k,none⟩ 1).heap[c]?=w.heap[c]?:=by
 unfold World.freeze
 rw[aA (by decide)]
 simp [CT,Ne.symm h]
theorem aFA {H:aC} {w:World} (hH:iK w H) {b:Nat} {t:TypeId} {o sz:Nat} {els:List (List D)} {cs:Array Value} {fr:Nat×Nat} {t':TypeId} (hb:H b=some (.row t o sz els)) (hw:w.heap[b]?=some (Obj.cells cs t' fr)):
  iK (w.freeze ⟨b,cs.size,none⟩ 1) H/\Ev H w H (w.freeze ⟨b,cs.size,none⟩ 1):=by
 obtain⟨cs0,fr0,h1,h2,h3,h4⟩:=hH _ _ hb
 rw[hw] at h1
 injection h1 with h1
 injection h1 with e1 e2 e3
 subst e1 e2 e3
 have aD5:H.bH b (.row t' o sz els)=H:=funext fun c=>by
  by_cases e:c=b
  ·subst e;rw[aO,hb]
  ·rw[aN e]
 have aHO:=XU (k:=cs.size) hw
 have lZ:(w.freeze ⟨b,cs.size,none⟩ 1).heap.size=w.heap.size:=by unfold World.freeze;rw[aA (by decide)];simp
 have lO:Ev H w (H.bH b (.row t' o sz els)) (w.freeze ⟨b,cs.size,none⟩ 1):=pO (by rw[hb];simp) (by unfold World.freeze;rw[aA (by decide)]) (by unfold World.freeze;rw[aA (by decide)]) (by unfold World.freeze;rw[aA (by decide)]) lZ (fun c hc=>JG hc) fun S9 t2 fr2 h=>by
  rw[hw] at h
  injection h with h
  injection h with e1 e2 e3
  subst e1 e2 e3
  exact⟨_,_,aHO,rfl⟩
 have fI:=mW hH lO (fun c hc=>JG hc) ⟨cs,_,aHO,by
  unfold aEZ at h2 ⊢
  by_cases e:fr.1=fr.2
  ·rw[aE (by simpa using e)];exact .inr (dI _)
  ·rw[aA (by simpa using e)]
   refine .inr ?_
   have:=h2.resolve_left e
   simp only
   omega,h3,by
  have G5:∀(i:Nat),(w.freeze ⟨b,cs.size,none⟩ 1).cell? ⟨b,i,none⟩=w.cell? ⟨b,i,none⟩:=fun i=>by
   rw[cell_of_row _ _ _ _ _ _ aHO,cell_of_row _ _ _ _ _ _ hw]
  refine gO fun i el hi=>?_
  obtain⟨g1,g2⟩:=fH h4 i el hi
  refine⟨g1,?_⟩
  obtain⟨vs,g3,g4⟩:=fA g2
  refine fD (cK lO.kept _ g3) fun q v hq=>?_
  rw[G5]
  exact g4 q v hq⟩
 rw[aD5] at lO fI
 exact⟨fI,lO⟩
theorem aLi {P:Program} {H:aC} {w:World} (hH:iK w H) {src dst:TypeId} {x:D} {v:Value} {K:D->Prop} (h:U8 P H src dst x K) (hx:D.is w H.others x v):∃u d w',(convert src dst v).run P w=.ok u w'/\D.is w' H.others d u/\iK w' H/\Ev H w H w'/\K d:=by
 have GS:K3 P H src dst x K->∃u d w',(convert src dst v).run P w=.ok u w'/\D.is w' H.others d u/\iK w' H/\Ev H w H w'/\K d:=fun h=>by
  obtain⟨u,h1,h2⟩:=aLh hH h hx
  exact⟨u,_,w,h1,uA _,hH,fT _ _,h2⟩
 unfold U8 at h
 split at h
 ·rename_i blk o sz k n
  split at h
  ·rename_i e _ _ _ _ _ _ _ hA hB
   obtain⟨rfl,hn,h⟩:=h
   split at h
   ·rename_i hE
    split at h
    ·rename_i ty o' DF els hb
     obtain⟨dA,iA,a1,a2,a3⟩:=eE hA
     obtain⟨dE,iE,c1,c2,c3⟩:=eE hE
     injection a3 with a3
     cases dA <;> simp [lV] at a3
     subst a3
     injection c3 with c3
     cases dE <;> simp [lV] at c3
     subst c3
     have hx0:=hx
     simp only[D.is] at hx
     obtain⟨A,c,rfl,hc,hA2⟩:=hx
     rcases hA2 with hA2|⟨rfl,cs,t,fr,hw,aS⟩
     ·omega
     ·obtain⟨h1,h2⟩:=aFA hH hb hw
      refine⟨_,.os blk o sz k n,_,?_,qD h2.kept _ hx0,h1,h2,h⟩
      have DL:w.shape? blk=some (t,cs.size):=by unfold World.shape?;rw[hw]
      simp [convert,bT a1,bT c1,markStringish,shape,freeze,Sem.run,Result.andThen,DL]
    ·exact h.elim
   ·exact h.elim
  ·exact GS h
 ·exact GS h
def CL (b:Bool) (A B:Prop):Prop:=if b=true then A else B
theorem nV (b:Bool) (A B:Prop):CL b A B=if b=true then A else B:=rfl
theorem aKj (c:Prop) [Decidable c] (A B:Prop):(if c then A else B)=((c->A)/\(¬c->B)):=by
 by_cases h:c <;> simp [h]
theorem SI {b:Bool} {A B:Prop}:CL b A B↔(b=true->A)/\(b=false->B):=by cases b <;> simp [CL]
theorem yE {b fL:Bool} {A B:Prop}:CL (b==fL) A B↔(b=fL->A)/\(b= !fL->B):=by cases b <;> cases fL <;> simp [CL]
theorem ZB {b:Bool} {A B:Prop} (h:CL b A B):b=true->A:=fun e=>by subst e;simpa [CL] using h
theorem ZA {b:Bool} {A B:Prop} (h:CL b A B):b=false->B:=fun e=>by subst e;simpa [CL] using h
def eG (cx:Cx) (o:Oper) (s:St) (K:St->Prop):Prop:=
 match o.op with
 | .move x| .assign x=>K (s.put o.dst (s.ev x))
 | .pick c x y=>(match s.ev c with
  | .val (.bool b)=>CL b (K (s.put o.dst (s.ev x))) (K (s.put o.dst (s.ev y)))
  |_=>False)
 | .alloc t=>WW cx.P s.H t fun d H=>K ((s.dY H).put o.dst d)
 | .box t x=>W4 s.H t (s.ev x) fun d H=>K ((s.dY H).put o.dst d)
 | .build t ps=>TS cx.P t (s.parts ps) fun d=>K (s.put o.dst d)
 | .buildSlice t n ps=>S8 cx.P s.H t n (s.parts ps) fun d H=>K ((s.dY H).put o.dst d)
 | .load t x=>EP cx.P s.H t (s.ev x) fun d=>K (s.put o.dst d)
 | .store t x y=>TK cx.P s.H t (s.ev x) (s.ev y) fun H=>K ((s.dY H).put o.dst (.val undef))
 | .nilCheck x=>UD (s.ev x) fun d=>K (s.put o.dst d)
 | .binOp op t x y _=>U2 cx.P op t (s.ev x) (s.ev y) fun d=>K (s.put o.dst d)
 | .unOp op _ x=>UK op (s.ev x) fun d=>K (s.put o.dst d)
 | .convert a b x=>U8 cx.P s.H a b (s.ev x) fun d=>K (s.put o.dst d)
 | .makeFunc (.func f) first eL=>first.toList=[]/\K (s.put o.dst (.fn f (s.G3 eL)))
 | .makeSlice t n c=>YS cx.P s.H t (s.ev n) (s.ev c) fun d H=>K ((s.dY H).put o.dst d)
 | .slice t x lo hi mx=>UI cx.P s.H t (s.ev x) (lo.map s.ev) (hi.map s.ev) (mx.map s.ev) fun d=>K (s.put o.dst d)
 | .fieldAddr t x f=>TW cx.P t (s.ev x) f fun d=>K (s.put o.dst d)
 | .field t x f=>l3 cx.P t (s.ev x) f fun d=>K (s.put o.dst d)
 | .indexAddr t x i=>UA cx.P s.H t (s.ev x) (s.ev i) fun d=>K (s.put o.dst d)
 | .index t x i=>UB cx.P t (s.ev x) (s.ev i) fun d=>K (s.put o.dst d)
 | .extract x i=>TV (s.ev x) i fun d=>K (s.put o.dst d)
 | .call c=>W8 cx.P s c (fun d H=>K ((s.dY H).put o.dst d)) (WO cx o K s)
 | .makeMap _ none=>mmV s.H fun d H=>K ((s.dY H).put o.dst d)
 | .lookup t x i ok=>O6 cx.P s.H t (s.ev x) (s.ev i) ok fun d=>K (s.put o.dst d)
 | .mapUpdate t x i y=>RT cx.P s.H t (s.ev x) (s.ev i) (s.ev y) fun H=>K ((s.dY H).put o.dst (.val undef))
 | .insert t x i y=>RT cx.P s.H t (s.ev x) (s.ev i) (s.ev y) fun H=>K ((s.dY H).put o.dst (.val undef))
 |_=>WO cx o K s
theorem rY {cx:Cx} {o:Oper} {s:St} {K:St->Prop} (hd:DE cx.n o.dst) (h:eG cx o s K):WO cx o K s:=by
 have uM:∀{P:Program} {w:World} {sm:Sem Value} {r:Value} {w':World},sm.run P w=.ok r w'->(do pure (Next.value (<-sm)):Sem Next).run P w=.ok (.value r) w':=fun h=>by
  simp only[Sem.run_bind,h,Result.andThen,Sem.run_pure]
 unfold eG at h
 split at h
 case h_1 x e=>exact lB (by simp [e]) hd fun a w m=>⟨_,_,by simp [execOp,e],m.xS x,h⟩
 case h_2 x e=>exact lB (by simp [e]) hd fun a w m=>⟨_,_,by simp [execOp,e],m.xS x,h⟩
 case h_3 c x y e=>
  refine lB (by simp [e]) hd fun a w m=>?_
  split at h
  ·rename_i b hb
   have hc:=m.xS c
   rw[hb] at hc
   have gG:=dZ hc
   cases b with
   |true=>exact⟨_,_,by simp [execOp,e,gG,asBool],m.xS x,ZB h rfl⟩
   |false=>exact⟨_,_,by simp [execOp,e,gG,asBool],m.xS y,ZA h rfl⟩
  ·exact h.elim
 case h_4 t e=>
  refine uF (by simp [e]) hd fun a w m=>?_
  obtain⟨r,d,w',H',h1,h2,h3,h4,h5⟩:=aL9 m.H h
  exact⟨r,w',d,H',by simp only[execOp,e];exact uM h1,h2,h3,h4,h5⟩
 case h_5 t x e=>
  refine uF (by simp [e]) hd fun a w m=>?_
  obtain⟨r,d,w',H',h1,h2,h3,h4,h5⟩:=aLg (P:=cx.P) m.H h (m.xS x)
  exact⟨r,w',d,H',by simp only[execOp,e];exact uM h1,h2,h3,h4,h5⟩
 case h_6 t ps e=>
  refine lB (by simp [e]) hd fun a w m=>?_
  obtain⟨r,d,h1,h2,h3⟩:=aLc h (m.R3 ps)
  exact⟨r,d,by simp only[execOp,e];exact uM h1,h2,h3⟩
 case h_7 t n ps e=>
  refine uF (by simp [e]) hd fun a w m=>?_
  obtain⟨r,d,w',H',h1,h2,h3,h4,h5⟩:=aEB m.H h (m.R3 ps)
  exact⟨r,w',d,H',by simp only[execOp,e];exact uM h1,h2,h3,h4,h5⟩
 case h_8 t x e=>
  refine lB (by simp [e]) hd fun a w m=>?_
  obtain⟨r,d,h1,h2,h3⟩:=aED m.H h (m.xS x)
  exact⟨r,d,by simp only[execOp,e];exact uM h1,h2,h3⟩
 case h_9 t x y e=>
  refine WS (by simp [e]) hd fun a w m=>?_
  obtain⟨w',H',h1,h2,h3,h4⟩:=aLs m.H h (m.xS x) (m.xS y)
  exact⟨w',H',by simp only[execOp,e,Sem.run_bind,h1,Result.andThen,Sem.run_pure],h2,h3,h4⟩
 case h_10 x e=>
  refine lB (by simp [e]) hd fun a w m=>?_
  obtain⟨h1,h2⟩:=aLq (P:=cx.P) e h (m.xS x)
  exact⟨_,_,h1,m.xS x,h2⟩
 case h_11 op t x y _ e=>
  refine lB (by simp [e]) hd fun a w m=>?_
  obtain⟨r,h1,h2⟩:=aLe (p:=x) (q:=y) h (m.xS x) (m.xS y)
  exact⟨r,_,by simp only[execOp,e];exact uM h1,uA _,h2⟩
 case h_12 op _ x e=>
  refine lB (by simp [e]) hd fun a w m=>?_
  obtain⟨r,h1,h2⟩:=aLt (P:=cx.P) h (m.xS x)
  exact⟨r,_,by simp only[execOp,e];exact uM h1,uA _,h2⟩
 case h_13 p q x e=>
  refine uF (by simp [e]) hd fun a w m=>?_
  obtain⟨r,d,w',h1,h2,h3,h4,h5⟩:=aLi m.H h (m.xS x)
  exact⟨r,w',d,s.H,by simp only[execOp,e];exact uM h1,h2,h3,h4,h5⟩
 case h_14 f first eL e=>
  refine lB (by simp [e]) hd fun a w m=>?_
  obtain⟨h0,h⟩:=h
  have hf:first= #[]:=n9 (by simpa using h0)
  subst hf
  refine⟨.func (.func f) #[] (eL.map a.eval),_,by simp [execOp,e,Instr.makeFunc],?_,h⟩
  simp only[D.is]
  exact⟨(eL.map a.eval).toList,rfl,m.aEx eL⟩
 case h_15 t n c e=>
  refine uF (by simp [e]) hd fun a w m=>?_
  obtain⟨r,d,w',H',h1,h2,h3,h4,h5⟩:=aLo m.H h (m.xS n) (m.xS c)
  exact⟨r,w',d,H',by simp only[execOp,e];exact uM h1,h2,h3,h4,h5⟩
 case h_16 t x lo hi mx e=>
  refine lB (by simp [e]) hd fun a w m=>?_
  obtain⟨r,d,h1,h2,h3⟩:=aLr h (m.xS x) (m.aPA lo) (m.aPA hi) (m.aPA mx)
  exact⟨r,d,by simp only[execOp,e];exact uM h1,h2,h3⟩
 case h_17 t x f e=>
  refine lB (by simp [e]) hd fun a w m=>?_
  obtain⟨r,d,h1,h2,h3⟩:=aLk h (m.xS x)
  exact⟨r,d,by simp only[execOp,e];exact uM h1,h2,h3⟩
 case h_18 t x f e=>
  refine lB (by simp [e]) hd fun a w m=>?_
  obtain⟨r,d,h1,h2,h3⟩:=aCb h (m.xS x)
  exact⟨r,d,by simp only[execOp,e];exact uM h1,h2,h3⟩
 case h_19 t x i e=>
  refine lB (by simp [e]) hd fun a w m=>?_
  obtain⟨r,d,h1,h2,h3⟩:=aLl h (m.xS x) (m.xS i)
  exact⟨r,d,by simp only[execOp,e];exact uM h1,h2,h3⟩
 case h_20 t x i e=>
  refine lB (by simp [e]) hd fun a w m=>?_
  obtain⟨r,d,h1,h2,h3⟩:=aLm h (m.xS x) (m.xS i)
  exact⟨r,d,by simp only[execOp,e];exact uM h1,h2,h3⟩
 case h_21 x i e=>
  refine lB (by simp [e]) hd fun a w m=>?_
  obtain⟨r,d,h1,h2,h3⟩:=aLj (P:=cx.P) h (m.xS x)
  exact⟨r,d,by simp only[execOp,e];exact uM h1,h2,h3⟩
 case h_22 c e=>
  unfold W8 at h
  split at h
  ·rename_i f X3
   split at h
   ·rename_i g eL hg
    intro a w m
    refine⟨oH,?_⟩
    rw[MG (by simp [e])]
    have hf:=m.xS f
    rw[hg] at hf
    simp only[D.is] at hf
    obtain⟨vs,hf,aGx⟩:=hf
    have yP:(execOp a.eval o).run cx.P w=.ok (.enter g (c.args.map a.eval++⟨vs⟩)) w:=by
     simp only[execOp,e,resolve,X3,hf,Deferred.ofValue,Sem.run_bind,Sem.run_pure,Result.andThen,invoke]
     rw[Array.empty_append]
     exact h.1 _ _
    rw[yP,Oper.uponIn_enter]
    refine⟨fun hd0=>(by cases hd0),?_⟩
    have xX:=EU (m.aEx c.args) aGx
    have hc:=h.2 w _ xX m.H m.gok
    have eP:=QG (ro:=cx.ro) (n:=9 - 1) hc
    rw[show(c.args.map a.eval++(⟨vs⟩:Array Value))=((c.args.map a.eval).toList++vs).toArray from n9 (by simp)]
    refine eP.mono fun e' w' ⟨v,d,H',he,h1,h2,h3,h4⟩=>?_
    subst he
    exact⟨_,(m.go h3 h2).put (j8 hd) h1,h4⟩
   ·exact h
  ·rename_i b X3
   refine uF (by simp [e]) hd fun a w m=>?_
   obtain⟨r,d,w',H',h1,h2,h3,h4,h5⟩:=aLd (cs:=c.args.map fun| .const _=>true|_=>false) (ty:=o.type) m.H h (m.aEx c.args)
   refine⟨r,w',d,H',?_,h2,h3,h4,h5⟩
   simp only[execOp,e,resolve,X3,Sem.run_bind,Sem.run_pure,Result.andThen,invoke]
   exact h1
  ·exact h
 case h_23 t e=>
  refine uF (by simp [e]) hd fun a w m=>?_
  obtain⟨r,d,w',H',h1,h2,h3,h4,h5⟩:=aLp (P:=cx.P) (t:=t) m.H h
  exact⟨r,w',d,H',by simp only[execOp,e];exact uM h1,h2,h3,h4,h5⟩
 case h_24 t x i ok e=>
  refine lB (by simp [e]) hd fun a w m=>?_
  obtain⟨r,d,h1,h2,h3⟩:=aLn m.H h (m.xS x) (m.xS i)
  exact⟨r,d,by simp only[execOp,e];exact uM h1,h2,h3⟩
 case h_25 t x i y e=>
  refine WS (by simp [e]) hd fun a w m=>?_
  obtain⟨w',H',h1,h2,h3,h4⟩:=aEE m.H h (m.xS x) (m.xS i) (m.xS y)
  exact⟨w',H',by simp only[execOp,e,Sem.run_bind,h1,Result.andThen,Sem.run_pure],h2,h3,h4⟩
 case h_26 t x i y e=>
  refine WS (by simp [e]) hd fun a w m=>?_
  obtain⟨w',H',h1,h2,h3,h4⟩:=aEE m.H h (m.xS x) (m.xS i) (m.xS y)
  exact⟨w',H',by simp only[execOp,e,Sem.run_bind,h1,Result.andThen,Sem.run_pure],h2,h3,h4⟩
 case h_27=>exact h
def kV:Op->Bool
 | .call ⟨.value _,_,_⟩=>true
 |_=>false
def oN (cx:Cx) (aX:Array Oper) (Q:Exit->St->Prop):List Oper->St->Prop
 |[],s=>Q .normal s
 |o::eJ,s=>(match o.guard with
  |none=>eG cx o s fun s'=>if kV o.op then WL cx aX eJ Q s' else oN cx aX Q eJ s'
  |some (j,fL)=>(match qF aX j with
   |some t=>(match s.fr t with
    | .val (.bool b)=>CL (b==fL) (eG cx o (s.put (some t) (.val (.bool fL))) fun s'=>if kV o.op then WL cx aX eJ Q s' else oN cx aX Q eJ s') (oN cx aX Q eJ ((s.put (some t) (.val (.bool !fL))).put o.dst (.val undef)))
    | .val (.tuple ⟨[]⟩)=>oN cx aX Q eJ (s.put o.dst (.val undef))
    |_=>False)
   |none=>False))
def gJ (n:Nat) (aX:List Oper):Bool:=aX.all fun o=>match o.dst with
 |some t=>decide (t<n)
 |none=>true
theorem Y8 {s:St} {t:Nat} {d:D} (h:s.fr t=d):s.put (some t) d=s:=by
 cases s
 simp only[St.put] at h ⊢
 congr 1
 funext x
 by_cases e:x=t
 ·rw[aE e,e,h]
 ·rw[aA e]
theorem NQ {cx:Cx} {aX:List Oper} {Q:Exit->St->Prop} (fI:gJ cx.n aX=true):∀{l:List Oper} {s:St},gJ cx.n l=true->oN cx aX.toArray Q l s->WL cx aX.toArray l Q s
 |[],s,_,h=>WR h
 |o::eJ,s,hl,h=>by
  simp only[gJ,pX,eK] at hl
  have hd:DE cx.n o.dst:=by
   have:=hl.1
   unfold DE
   cases ho:o.dst with
   |none=>trivial
   |some t=>rw[ho] at this;simpa using this
  have ih:∀s',oN cx aX.toArray Q eJ s'->WL cx aX.toArray eJ Q s':=fun s' h'=>NQ fI hl.2 h'
  have ih2:∀s',(if kV o.op then WL cx aX.toArray eJ Q s' else oN cx aX.toArray Q eJ s')->WL cx aX.toArray eJ Q s':=fun s' h'=>by
   split at h'
   ·exact h'
   ·exact ih s' h'
  simp only[oN] at h
  split at h
  ·rename_i hg
   exact wJ hg (E0 (rY hd h) ih2)
  ·rename_i j fL hg
   split at h
   ·rename_i t ht
    have T6:t<cx.n:=by
     unfold qF at ht
     cases hj:aX.toArray[j]? with
     |none=>rw[hj] at ht;cases ht
     |some o'=>
      rw[hj] at ht
      have:=(eZ.1 fI) o' (by have:=F1 hj;simpa using this)
      simp at ht
      rw[ht] at this
      simpa using this
    split at h
    ·rename_i b hb
     exact AP hg ht T6 (j8 hd) (.inl ⟨b,hb,fun e=>by
       have h2:=ZB h (by rw[e];cases fL <;> rfl)
       rw[Y8 (by rw[hb,e])] at h2
       exact E0 (rY hd h2) ih2,fun e=>by
       have h2:=ZA h (by rw[e];cases fL <;> rfl)
       rw[Y8 (by rw[hb,e])] at h2
       exact ih _ h2⟩)
    ·rename_i hb
     exact AP hg ht T6 (j8 hd) (.inr ⟨hb,ih _ h⟩)
    ·exact h.elim
   ·exact h.elim
end Go.Proofs.YtfiipaodjpiooaaGreatDoor

