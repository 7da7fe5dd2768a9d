/- Lemmas and contracts of functions, several texts in one. -/
import Derived.Test.YtelbfbioomcmeaaGreatDoorQ03
set_option maxRecDepth 100000
set_option maxHeartbeats 4000000
set_option linter.all false
namespace Go.Proofs.YtelbfbioomcmeaaGreatDoor
open Go.RowKit
theorem RV {P:Program} {H:aA} {w:World} (hH:fQ w H) {b o sz k:Nat} {ty:TypeId} {els new:List (List D)} {us:List Value} {cs:Array Value} {fr:Nat×Nat} (hb:H b=some (.row ty o sz els)) (hw:w.heap[b]?=some (Obj.cells cs ty fr))
  (hn:∀e∈new,e.length=sz) (hu:aU w H.others new.flatten us) (GA:us.length=new.length * sz) (hk:k<=els.length) (AO:o+k * sz+us.length<=cs.size):
  ∃w',(storeCells ⟨b,o+k * sz,none⟩ us).run P w=.ok () w'/\fQ w' (H.bH b (.row ty o sz (els.take k++new++els.drop (k+new.length))))/\Ev H w (H.bH b (.row ty o sz (els.take k++new++els.drop (k+new.length)))) w':=by
 obtain⟨cs0,fr0,h1,h2,h3,h4⟩:=hH _ _ hb
 rw[hw] at h1
 injection h1 with h1
 cases h1
 obtain⟨w',uW,e1,e2,e3,e4,ho,sZ,g1,g2,g3,g4⟩:=gK (P:=P) b ty fr us (o+k * sz) 0 w cs hw h2 (by omega) (oC hu)
 have iP:Ev H w (H.bH b (.row ty o sz (els.take k++new++els.drop (k+new.length)))) w':=mV (by rw[hb];simp) e1 e2 e3 e4 ho (fun cs0 t0 fr0 h0=>by
  rw[hw] at h0
  injection h0 with h0
  injection h0 with a1 a2 a3
  subst a1 a2 a3
  exact⟨sZ,_,g1,g2⟩)
 have sM:(els.take k).length=k:=by rw[dJ];omega
 refine⟨w',uW,kS hH iP ho ⟨sZ,fr,g1,by rw[g2];exact h2,?_,?_⟩,iP⟩
 ·rw[g2,bJ,bJ,sM,kG]
  rcases jW els.length (k+new.length) with gL|EC
  ·have:els.length - (k+new.length)=0:=by omega
   rw[this,z8,eK];omega
  ·have:k+new.length+(els.length - (k+new.length))=els.length:=by omega
   rw[this];exact h3
 ·have PW:∀j,w'.cell? ⟨b,j,none⟩=sZ[j]?:=fun j=>cell_of_row w' b j sZ ty fr g1
  have aAc:∀j,w.cell? ⟨b,j,none⟩=cs[j]?:=fun j=>cell_of_row w b j cs ty fr hw
  have fP:∀j':Nat,j'<o+k * sz\/o+k * sz+us.length<=j'->w'.cell? ⟨b,j',none⟩=w.cell? ⟨b,j',none⟩:=fun j' hj=>by
   rw[PW,aAc];exact g4 j' (by omega)
  have BT:∀(i:Nat) (el:List D),els[i]?=some el->(i<k\/k+new.length<=i)->el.length=sz/\cK w' (H.bH b (.row ty o sz (els.take k++new++els.drop (k+new.length)))).others b (o+i * sz) el:=fun i el hi JY=>by
   obtain⟨q1,q2⟩:=eA h4 i el hi
   refine⟨q1,?_⟩
   obtain⟨vs,h5,h6⟩:=dR q2
   refine dV (bV iP.kept _ h5) fun j v hj=>?_
   have hvl:=dU h5
   have kR:j<sz:=by have:=(kD.1 hj).1;omega
   rw[fP _ ?_]
   ·exact h6 j v hj
   ·rcases JY with JY|JY
    ·left
     have:(i+1) * sz<=k * sz:=jP _ JY
     rw[eK] at this;omega
    ·right
     have:(k+new.length) * sz<=i * sz:=jP _ JY
     rw[eK] at this;omega
  refine eY fun i el hi=>?_
  rcases jW i k with JY|JY
  ·rw[dN,nS (by omega),nU,aH JY] at hi
   exact BT i el hi (.inl JY)
  ·rcases jW i (k+new.length) with aIu|aIu
   ·rw[dN,qX (by omega),sM,nS (by omega)] at hi
    refine⟨hn el (jQ hi),?_⟩
    have h5:=gR sz (gQ ((i - k) * sz) hu)
    rw[II hn hi] at h5
    refine dV (bV iP.kept _ h5) fun j v hj=>?_
    rw[nU] at hj
    split at hj
    ·rw[yL] at hj
     rw[PW,<-g3 _ v hj]
     congr 1
     have:k * sz+(i - k) * sz=i * sz:=by rw[<-eK];congr 1;omega
     omega
    ·cases hj
   ·rw[qX (by rw[bJ];omega),bJ,sM,yL] at hi
    rw[show k+new.length+(i - (k+new.length))=i by omega] at hi
    exact BT i el hi (.inr aIu)
def CG (P:Program) (H:aA) (t:TypeId) (x:D) (K:D->aA->Prop):Prop:=
 match aS P t,x with
 |some ⟨.slice e,_,_,_⟩,.os b o sz k n=>(match aS P e,H b with
  |some ⟨_,wT,_,some zs⟩,some (.row ty o' lH els)=>zs.length=sz/\wT=sz/\lH=sz/\o'=o/\zs.all Value.oneCell'=true/\k<=els.length/\K (.val undef) (H.bH b (.row ty o sz (els.take k)))
  |_,_=>False)
 |_,_=>False
theorem R7 {H:aA} {w:World} {b:Nat} {ty:TypeId} {o sz k:Nat} {els:List (List D)} (h:fQ w (H.bH b (.row ty o sz els))):fQ w (H.bH b (.row ty o sz (els.take k))):=fun c y hc=>by
 by_cases e:c=b
 ·subst e
  rw[aQ] at hc
  injection hc with hc
  subst hc
  obtain⟨cs,fr,h1,h2,h3,h4⟩:=h c _ (aQ _ _ _)
  refine⟨cs,fr,h1,h2,?_,eY fun i el hi=>?_⟩
  ·have:(els.take k).length * sz<=els.length * sz:=jP _ (by rw[dJ];omega)
   omega
  ·rw[nU] at hi
   split at hi
   ·obtain⟨q1,q2⟩:=eA h4 i el hi
    refine⟨q1,?_⟩
    obtain⟨vs,h5,h6⟩:=dR q2
    refine dV (bV ⟨fA _,fun b' D9 _=>⟨?_,rfl⟩,fun _ _ _ fr h=>⟨_,fr,h,rfl⟩⟩ _ h5) h6
    unfold aA.others at D9 ⊢
    by_cases e2:b'=c
    ·subst e2;rw[aQ] at D9;cases D9
    ·rw[aP e2] at D9 ⊢;exact D9
   ·cases hi
 ·rw[aP e] at hc
  have h0:=h c y (by rw[aP e];exact hc)
  have hk:∀b',(H.bH b (.row ty o sz els)).others b'->(H.bH b (.row ty o sz (els.take k))).others b':=fun b' D9=>by
   unfold aA.others at D9 ⊢
   by_cases e2:b'=b
   ·subst e2;rw[aQ] at D9;cases D9
   ·rw[aP e2] at D9 ⊢;exact D9
  have kept:HL (H.bH b (.row ty o sz els)).others (H.bH b (.row ty o sz (els.take k))).others w w:=⟨fA _,fun b' D9 _=>⟨hk b' D9,rfl⟩,fun _ _ _ fr h=>⟨_,fr,h,rfl⟩⟩
  cases y with
  |row t2 o2 sz2 a0X=>
   obtain⟨cs,fr,h1,h2,h3,h4⟩:=h0
   refine⟨cs,fr,h1,h2,h3,eY fun i el hi=>?_⟩
   obtain⟨q1,q2⟩:=eA h4 i el hi
   refine⟨q1,?_⟩
   obtain⟨vs,h5,h6⟩:=dR q2
   exact dV (bV kept _ h5) h6
  |map mm=>
   obtain⟨es,c2,h1,h2,h3,h4⟩:=h0
   exact⟨es,c2,h1,h2,fZ kept _ h3,h4⟩
  |hid=>exact h0
  |obj o=>exact h0
theorem FA {H:aA} {w w':World} {b:Nat} {x y:gB} (h:Ev H w (H.bH b x) w'):Ev H w (H.bH b y) w':=
 ⟨h.os,h.tape,h.output,h.size,fun c hc hn=>by
  obtain⟨h1,h2⟩:=h.jY c hc hn
  refine⟨h1,?_⟩
  by_cases e:c=b
  ·subst e;rw[aQ] at h2;cases h2
  ·rw[aP e] at h2 ⊢;exact h2,h.shape⟩
theorem aC4 {P:Program} {H:aA} {w:World} (hH:fQ w H) {t ty:TypeId} {x:D} {v:Value} {K:D->aA->Prop} (h:CG P H t x K) (hx:D.is w H.others x v):
  ∃r d' w' H',(Builtin.clear_ #[t] ty #[v]).run P w=.ok r w'/\D.is w' H'.others d' r/\fQ w' H'/\Ev H w H' w'/\K d' H':=by
 unfold CG at h
 split at h
 ·rename_i e _ _ _ b o sz k n hT
  split at h
  ·rename_i dE wT byE zs XH o' lH els hE hb
   obtain⟨FJ,rfl,rfl,rfl,Q0,hk,h⟩:=h
   obtain⟨dA,iA,a1,a2,a3⟩:=cU hT
   injection a3 with a3
   cases dA <;> simp [iU] at a3
   subst a3
   obtain⟨cs,fr,h1,h2,h3,h4⟩:=hH _ _ hb
   simp only[D.is] at hx
   obtain⟨A,c,rfl,hc,hA⟩:=hx
   have Q7:(n=0\/A=none)->fQ w (H.bH b (.row XH o' lH (els.take k)))/\Ev H w (H.bH b (.row XH o' lH (els.take k))) w:=fun _=>by
    have WJ:H.bH b (.row XH o' lH els)=H:=funext fun c=>by
     by_cases e:c=b
     ·subst e;rw[aQ,hb]
     ·rw[aP e]
    exact⟨R7 (by rw[WJ];exact hH),FA (x:=.row XH o' lH els) (by rw[WJ];exact gC _ _)⟩
   by_cases hn:n=0
   ·subst hn
    obtain⟨q1,q2⟩:=Q7 (.inl rfl)
    refine⟨undef,.val undef,w,_,?_,pA _,q1,q2,h⟩
    cases A <;> simp [Builtin.clear_,bI a1] <;> rfl
   ·rcases hA with hA|⟨rfl,cs2,t2,fr2,hw,AO⟩
    ·omega
    ·rw[h1] at hw
     injection hw with hw
     injection hw with b1 b2 b3
     subst b1 b2 b3
     obtain⟨z,KJ,UA⟩:=qG hE rfl w
     have hzc:(Builtin.zeroCells z.cells n).toList=(List.replicate n zs).flatten:=by
      apply uH
      intro i
      have lE:z.cells.size=zs.length:=by rw[<-UA,jS]
      have aDf:∀(m i:Nat),((List.replicate m zs).flatten)[i]?=if i<m * zs.length then zs[i % zs.length]? else none:=by
       intro m
       induction m with
       |zero=>intro i;simp
       |succ m ih=>
        intro i
        rw[List.replicate_succ,v8]
        by_cases h:i<zs.length
        ·rw[nS h,aH (by rw[wH];omega),wC h]
        ·rw[qX (by omega),ih (i - zs.length),wH]
         have:(i - zs.length) % zs.length=i % zs.length:=(Nat.mod_eq_sub_mod (by omega)).symm
         rw[this]
         by_cases h2:i<m * zs.length+zs.length
         ·rw[aH (by omega),aH h2]
         ·rw[aD (by omega),aD h2]
      rw[aDf,zQ]
      unfold Builtin.zeroCells
      rw[lE,DL,HA]
      split
      ·rename_i h
       have hp:0<zs.length:=by
        rcases zT zs.length with h0|h0
        ·rw[h0] at h;simp at h
        ·exact h0
       have hq2:i % z.cells.size<z.cells.size:=Nat.mod_lt _ (by omega)
       simp only[jV]
       rw[<-UA,jS,zQ,DR z.cells _ hq2,Array.getElem?_eq_getElem hq2]
      ·rfl
     have aIr:((List.replicate n (zs.map D.val)).flatten:List D)=(List.replicate n zs).flatten.map .val:=by
      rw[List.map_flatten,DK]
     have eW:∀v∈(List.replicate n zs).flatten,v.oneCell'=true:=fun v hv=>by
      obtain⟨l,hl,hvl⟩:=List.mem_flatten.1 hv
      rw[List.eq_of_mem_replicate hl] at hvl
      exact(eD.1 Q0) v hvl
     have GA:((List.replicate n zs).flatten).length=(List.replicate n (zs.map D.val)).length * lH:=by
      rw[List.length_flatten,DK,O2,zO,FJ]
     obtain⟨w',g1,g2,g3⟩:=RV (P:=P) hH (k:=k) (new:=List.replicate n (zs.map .val)) (us:=(List.replicate n zs).flatten) hb h1 (fun e he=>by rw[List.eq_of_mem_replicate he,bK,FJ]) (by rw[aIr];exact sC _ eW) GA hk (by
      rw[GA,zO]
      have:(k+n) * lH<=(k+c) * lH:=jP _ (by omega)
      rw[eK] at this
      omega)
     refine⟨undef,.val undef,w',_,?_,pA _,R7 (k:=k) g2 |> fun hh=>?_,FA g3,h⟩
     ·obtain⟨m,rfl⟩:∃m,n=m+1:=⟨n - 1,by omega⟩
      simp only[Builtin.clear_,sU,l7,Sem.run_bind,bI a1,Result.andThen,KJ,hzc,g1,Sem.run_pure]
      rfl
     ·have:(els.take k++List.replicate n (zs.map D.val)++els.drop (k+(List.replicate n (zs.map D.val)).length)).take k=els.take k:=by
       rw[dN,G6 (by rw[dJ];omega),DQ,Nat.min_self]
      rwa[this] at hh
  ·exact h.elim
 ·exact h.elim
def wW (P:Program) (H:aA) (t:TypeId) (x y:D) (K:D->aA->Prop):Prop:=
 match aS P t,x with
 |some ⟨.slice e,_,_,_⟩,.os b o sz k n=>(match aS P e,H b with
  |some ⟨_,wT,_,_⟩,some (.row ty o' lH els)=>wT=sz/\lH=sz/\o'=o/\k<=els.length/\n≠0/\jZ H sz y fun new=>new.length<=n/\K (.val (.int .i64 (new.length:Int))) (H.bH b (.row ty o sz (els.take k++new++els.drop (k+new.length))))
  |_,_=>False)
 |_,_=>False
theorem aC5 {P:Program} {H:aA} {w:World} (hH:fQ w H) {t xt ty:TypeId} {x y:D} {v u:Value} {K:D->aA->Prop} (h:wW P H t x y K) (hx:D.is w H.others x v) (hy:D.is w H.others y u):
  ∃r d' w' H',(Builtin.copy_ #[t,xt] ty #[v,u]).run P w=.ok r w'/\D.is w' H'.others d' r/\fQ w' H'/\Ev H w H' w'/\K d' H':=by
 unfold wW at h
 split at h
 ·rename_i e _ _ _ b o sz k n hT
  split at h
  ·rename_i dE wT byE zs XH o' lH els hE hb
   obtain⟨rfl,rfl,rfl,hk,hn,h⟩:=h
   obtain⟨dA,iA,a1,a2,a3⟩:=cU hT
   injection a3 with a3
   cases dA <;> simp [iU] at a3
   subst a3
   obtain⟨new,us,⟨aR,hK⟩,q1,q2,q3,q4,q5⟩:=I0 (P:=P) hH h hy
   obtain⟨cs,fr,h1,h2,h3,h4⟩:=hH _ _ hb
   simp only[D.is] at hx
   obtain⟨A,c,rfl,hc,hA⟩:=hx
   rcases hA with hA|⟨rfl,cs2,t2,fr2,hw,AO⟩
   ·omega
   ·rw[h1] at hw
    injection hw with hw
    injection hw with b1 b2 b3
    subst b1 b2 b3
    obtain⟨w',g1,g2,g3⟩:=RV (P:=P) hH (k:=k) (new:=new) (us:=us) hb h1 q1 q2 q3 hk (by
     rw[q3]
     have:(k+new.length) * lH<=(k+c) * lH:=jP _ (by omega)
     rw[eK] at this
     omega)
    refine⟨_,.val (.int .i64 (new.length:Int)),w',_,?_,pA _,g2,g3,hK⟩
    have aX8:Nat.min new.length n=new.length:=uI aR
    simp only[Builtin.copy_,sU,l7,uF,Sem.run_bind,bI a1,Result.andThen,q4,aX8,eU hE,q5 w rfl,g1,Sem.run_pure]
    rfl
  ·exact h.elim
 ·exact h.elim
def uZ (P:Program) (H:aA) (t:TypeId) (x:D) (K:D->Prop):Prop:=
 match aS P t with
 |some T=>(match T.d,x with
  | .slice _,.seq _ els=>K (.val (.int .i64 (els.length:Int)))
  | .slice _,.os _ _ _ _ n=>K (.val (.int .i64 (n:Int)))
  | .slice _,.val (.slice _ n _)=>K (.val (.int .i64 (n:Int)))
  | .slice _,.ND=>K (.val (.int .i64 0))
  | .string,.val (.string s)=>K (.val (.int .i64 (s.size:Int)))
  | .array n _,_=>K (.val (.int .i64 (n:Int)))
  | .map _ _,.val (.map none)=>K (.val (.int .i64 0))
  | .map _ _,.val (.map (some b))=>(match H b with
   |some (.map m)=>K (.val (.int .i64 (m.length:Int)))
   |_=>False)
  |_,_=>False)
 |none=>False
theorem aC6 {P:Program} {H:aA} {w:World} (hH:fQ w H) {t ty:TypeId} {x:D} {v:Value} {K:D->Prop} (h:uZ P H t x K) (hx:D.is w H.others x v):∃u,(Builtin.len_ #[t] ty #[v]).run P w=.ok u w/\K (.val u):=by
 unfold uZ at h
 split at h
 ·rename_i T hT
  obtain⟨d,i,a1,a2,rfl⟩:=cU hT
  simp only at h
  split at h
  ·rename_i e1
   cases d <;> simp [iU] at e1
   simp only[D.is] at hx
   obtain⟨A,c,rfl,_⟩:=hx
   exact⟨_,by simp [Builtin.len_,bI a1,goInt],h⟩
  ·rename_i e1
   cases d <;> simp [iU] at e1
   simp only[D.is] at hx
   obtain⟨A,c,rfl,_⟩:=hx
   exact⟨_,by simp [Builtin.len_,bI a1,goInt],h⟩
  ·rename_i e1
   cases d <;> simp [iU] at e1
   have e:=dF hx
   subst e
   exact⟨_,by simp [Builtin.len_,bI a1,goInt],h⟩
  ·rename_i e1
   cases d <;> simp [iU] at e1
   simp only[D.is] at hx
   obtain⟨A,rfl⟩:=hx
   exact⟨.int .i64 0,by simp [Builtin.len_,bI a1,goInt],h⟩
  ·rename_i e1
   cases d <;> simp [iU] at e1
   have e:=dF hx
   subst e
   refine⟨_,?_,h⟩
   unfold Builtin.len_
   simp only[sU,l7,Sem.run_bind,bI a1,Result.andThen,Sem.run_pure]
   rfl
  ·rename_i e1
   cases d <;> simp [iU] at e1
   obtain⟨rfl,rfl⟩:=e1
   exact⟨_,by simp [Builtin.len_,bI a1,goInt],h⟩
  ·rename_i e1
   cases d <;> simp [iU] at e1
   have e:=dF hx
   subst e
   exact⟨.int .i64 0,by simp [Builtin.len_,bI a1,goInt],h⟩
  ·rename_i e1
   cases d <;> simp [iU] at e1
   have e:=dF hx
   subst e
   split at h
   ·rename_i m hb
    obtain⟨es,c,h1,h2,h3⟩:=hH _ _ hb
    have hl:es.size=m.length:=by
     have:=cV List.length h2
     simpa using this
    refine⟨_,?_,h⟩
    simp [Builtin.len_,bI a1,getObj,Sem.run,h1,goInt,hl]
   ·exact h.elim
  ·exact h.elim
 ·exact h.elim
def x7 (xs:List D) (K:D->Prop):Prop:=
 match xs with
 |[.val (.int k a),.val (.int _ b)]=>K (.val (.int k (min a b)))
 |_=>False
def x6 (xs:List D) (K:D->Prop):Prop:=
 match xs with
 |[.val (.int k a),.val (.int _ b)]=>K (.val (.int k (max a b)))
 |_=>False
theorem aC8 {P:Program} {w:World} {S:Nat->Prop} {ts:Array TypeId} {ty:TypeId} {xs:List D} {vs:List Value} {K:D->Prop} (h:x7 xs K) (hx:aW w S xs vs):∃u,(Builtin.min_ ts ty ⟨vs⟩).run P w=.ok u w/\K (.val u):=by
 unfold x7 at h
 split at h
 ·rename_i k a k' b
  simp only[aW,D.is] at hx
  obtain⟨_,_,rfl,rfl,_,_,rfl,rfl,rfl⟩:=hx
  refine⟨_,rfl,?_⟩
  have:(if b<a then b else a)=min a b:=by split <;> omega
  rw[this]
  exact h
 ·exact h.elim
theorem aC7 {P:Program} {w:World} {S:Nat->Prop} {ts:Array TypeId} {ty:TypeId} {xs:List D} {vs:List Value} {K:D->Prop} (h:x6 xs K) (hx:aW w S xs vs):∃u,(Builtin.max_ ts ty ⟨vs⟩).run P w=.ok u w/\K (.val u):=by
 unfold x6 at h
 split at h
 ·rename_i k a k' b
  simp only[aW,D.is] at hx
  obtain⟨_,_,rfl,rfl,_,_,rfl,rfl,rfl⟩:=hx
  refine⟨_,rfl,?_⟩
  have:(if b>a then b else a)=max a b:=by split <;> omega
  rw[this]
  exact h
 ·exact h.elim
def RK (x:D) (K:D->Prop):Prop:=
 match x with
 | .ep _ _ _ _ _| .rp _| .fn _ _=>K x
 |_=>False
theorem aEz {P:Program} {w:World} {S:Nat->Prop} {ρ:Operand->Value} {o:Oper} {y:Operand} (e:o.op=.nilCheck y) {x:D} {K:D->Prop} (h:RK x K) (hx:D.is w S x (ρ y)):(execOp ρ o).run P w=.ok (.value (ρ y)) w/\K x:=by
 unfold RK at h
 split at h
 ·simp only[D.is] at hx;exact⟨by simp only[execOp,e,hx];rfl,h⟩
 ·simp only[D.is] at hx;obtain⟨b,o',hv,_⟩:=hx;exact⟨by simp only[execOp,e,hv];rfl,h⟩
 ·simp only[D.is] at hx;obtain⟨vs,hv,_⟩:=hx;exact⟨by simp only[execOp,e,hv];rfl,h⟩
 ·exact h.elim
def P5 (x:D) (i:Nat) (K:D->Prop):Prop:=
 match x with
 | .fV ds=>(match ds[i]? with
  |some d=>K d
  |none=>False)
 |_=>False
theorem aEs {P:Program} {w:World} {S:Nat->Prop} {x:D} {v:Value} {i:Nat} {K:D->Prop} (h:P5 x i K) (hx:D.is w S x v):∃u d,(Instr.extract v i).run P w=.ok u w/\D.is w S d u/\K d:=by
 unfold P5 at h
 split at h
 ·split at h
  ·rename_i d hd
   simp only[D.is] at hx
   obtain⟨vs,rfl,hx⟩:=hx
   obtain⟨u,h1,h2⟩:=l3 hx i d hd
   refine⟨u,d,?_,h2,h⟩
   unfold Instr.extract
   simp only[sU,h1]
   rfl
  ·exact h.elim
 ·exact h.elim
def VI (P:Program) (H:aA) (t xt:TypeId) (s x:D) (K:D->aA->Prop):Prop:=
 match aS P t,aS P xt,x with
 |some ⟨.slice e,_,_,_⟩,some ⟨.int _,_,_,_⟩,.val (.int _ n)=>(match aS P e with
  |some ⟨_,sz,sY,some zs⟩=>zs.length=sz/\sz≠0/\sY≠0/\zs.all Value.oneCell'=true/\(match s with
   | .val (.slice none 0 0)| .ND=>0<n/\((n * (sY:Int)<=140737488355328/\∀b,H b=none->K (.os b 0 sz 0 n.toNat) (H.bH b (.row e 0 sz (List.replicate n.toNat (zs.map .val)))))\/
     (n * (sY:Int)<=281474976710656/\∀b c,H b=none->n.toNat<=c->K (.val (.slice (some ⟨b,0,none⟩) n.toNat c)) (H.bH b (.row e 0 sz (List.replicate c (zs.map .val))))))
   | .os b o wT k n'=>wT=sz/\0<=n/\(((n'+n.toNat) * sY:Nat):Int)<=140737488355328/\(match H b with
    |some (.row ty o' lH gO)=>ty=e/\o'=o/\lH=sz/\k+n'<=gO.length/\∀b' o',(H.del b) b'=none->K (.os b' o' sz 0 (n'+n.toNat)) ((H.del b).bH b' (.row e o' sz ((gO.drop k).take n'++List.replicate n.toNat (zs.map .val))))
    |_=>False)
   |_=>False)
  |_=>False)
 |_,_,_=>False
theorem BA {zs:List Value} {z:Array Value} (hz:z.toList=zs) (n j q:Nat) (hj:j<n) (hq:q<zs.length):(Builtin.zeroCells z n)[j * zs.length+q]?=zs[q]?:=by
 have lE:z.size=zs.length:=by rw[<-hz,jS]
 have gL:j * zs.length+q<n * zs.length:=rJ hj hq
 unfold Builtin.zeroCells
 rw[lE,DL,HA,aH gL]
 simp only[jV]
 rw[Nat.add_comm,Nat.add_mul_mod_self_right,wC hq]
 have hq2:q<z.size:=by omega
 rw[<-hz]
 simp [hq2]
theorem aAP {w:World} {S:Nat->Prop} {b sz k m:Nat} {e:TypeId} {fr:Nat×Nat} {zs:List Value} {z:Array Value} (hz:z.toList=zs) (FJ:zs.length=sz) (Q0:zs.all Value.oneCell'=true) (hb:w.heap[b]?=some (Obj.cells (Builtin.zeroCells z m++Builtin.zeroCells z k) e fr)):
  dC w S b sz 0 (List.replicate (m+k) (zs.map .val)):=by
 have hzs:z.size=zs.length:=by rw[<-hz,jS]
 refine eY fun j el hj=>?_
 rw[List.getElem?_replicate] at hj
 split at hj
 ·rename_i kR
  injection hj with hj
  subst hj
  refine⟨by simp [FJ],?_⟩
  refine dV (kP zs (fun v hv=>(eD.1 Q0) v hv)) fun q v hq=>?_
  have hqz:q<zs.length:=(kD.1 hq).1
  have hm:∀x,(Builtin.zeroCells z x).size=x * zs.length:=fun x=>by simp only[Builtin.zeroCells,Array.size_map,Array.size_range,hzs]
  rw[cell_of_row _ _ _ _ _ _ hb,iZ,<-FJ]
  by_cases hjm:j<m
  ·have gL:j * zs.length+q<(Builtin.zeroCells z m).size:=by rw[hm];exact rJ hjm hqz
   rw[DF gL,BA hz m j q hjm hqz]
   exact hq
  ·have EC:(Builtin.zeroCells z m).size<=j * zs.length+q:=by
    rw[hm]
    have:m * zs.length<=j * zs.length:=jP _ (by omega)
    omega
   rw[DE EC,hm]
   have hs:j * zs.length+q - m * zs.length=(j - m) * zs.length+q:=by
    rw[Nat.sub_mul]
    have:m * zs.length<=j * zs.length:=jP _ (by omega)
    omega
   rw[hs,BA hz k (j - m) q (by omega) hqz]
   exact hq
 ·cases hj
theorem FC (zs:List Value):∀(m i:Nat),((List.replicate m zs).flatten)[i]?=if i<m * zs.length then zs[i % zs.length]? else none
 |0,i=>by simp
 |m+1,i=>by
  rw[List.replicate_succ,v8]
  by_cases h:i<zs.length
  ·rw[nS h,aH (by rw[wH];omega),wC h]
  ·rw[qX (by omega),FC zs m (i - zs.length),wH]
   have:(i - zs.length) % zs.length=i % zs.length:=(Nat.mod_eq_sub_mod (by omega)).symm
   rw[this]
   by_cases h2:i<m * zs.length+zs.length
   ·rw[aH (by omega),aH h2]
   ·rw[aD (by omega),aD h2]
theorem JU {zs:List Value} {z:Array Value} (hz:z.toList=zs) (m:Nat):(Builtin.zeroCells z m).toList=(List.replicate m zs).flatten:=by
 have lE:z.size=zs.length:=by rw[<-hz,jS]
 apply uH
 intro i
 rw[FC,zQ]
 unfold Builtin.zeroCells
 rw[lE,DL,HA]
 split
 ·rename_i h
  have hp:0<zs.length:=by
   rcases zT zs.length with h0|h0
   ·rw[h0] at h;simp at h
   ·exact h0
  have hq2:i % z.size<z.size:=Nat.mod_lt _ (by omega)
  simp only[jV]
  rw[<-hz,jS,zQ,DR z _ hq2,Array.getElem?_eq_getElem hq2]
 ·rfl
theorem GD {P:Program} {w:World} {t xt ty e:TypeId} {kx kn:IntKind} {E:Ti} {zs:List Value} (ht:P.underlying t=some (.slice e)) (hxt:P.underlying xt=some (.int kx))
  (hE:aS P e=some E) (hz:E.zero=some zs) (FJ:zs.length=E.size) (A:Option Addr) (n c m:Nat) (BT:List Value)
  (hold:∀W:World,W.heap=w.heap->(Builtin.firstCells E.size n (.slice A n c)).run P W=.ok ⟨BT⟩ W) (uR:E.bytes≠0) (hb:(n+m) * E.bytes<=140737488355328):
  (n+m<=c->∀w',(match A with|some a=>storeCells (a.add (n * E.size)) (List.replicate m zs).flatten|none=>pure ():Sem Unit).run P w=.ok () w'->(Builtin.append_ #[t,xt] ty #[.slice A n c,.int kn (m:Int)]).run P w=.ok (.slice A (n+m) c) w')/\
  (c<n+m->∃cap dD,n+m<=cap/\(Builtin.append_ #[t,xt] ty #[.slice A n c,.int kn (m:Int)]).run P w=.ok (.slice (some ⟨w.heap.size,0,none⟩) (n+m) cap) (w.drew.alloc (Obj.cells ⟨BT++(List.replicate m zs).flatten++dD⟩ e))/\dD.length=(cap - (n+m)) * zs.length):=by
 obtain⟨i,b1,b2,b3,b4,b5⟩:=nD hE w
 have KZ:∀W,(typeInfo e).run P W=.ok i W:=fun W=>by
  obtain⟨i',c1,_,_,_,c5⟩:=nD hE W
  rw[b5] at c5
  injection c5 with c5
  subst c5
  exact c1
 have CT:m * E.bytes<=140737488355328:=tU (jP _ (by omega)) hb
 have aX9:n+m<=140737488355328:=tU (Nat.le_mul_of_pos_right _ (Nat.pos_of_ne_zero uR)) hb
 have KI:IntKind.i64.wrap (m:Int)=(m:Int):=by rw[IntKind.wrap_i64];omega
 have hn3:¬((m:Int)<0):=by omega
 have hn4:¬((m:Int) * (i.bytes:Int)>2 ^ 48):=by
  rw[<-b3]
  have:((m * E.bytes:Nat):Int)<=140737488355328:=by omega
  rw[Int.natCast_mul] at this
  omega
 have AK:∀W,(if m * E.size=0 then pure #[] else do pure (Builtin.zeroCells (<-zeroValue e).cells m):Sem (Array Value)).run P W=.ok ⟨(List.replicate m zs).flatten⟩ W:=fun W=>by
  obtain⟨z,KJ,UA⟩:=qG hE hz W
  split
  ·rename_i h0
   rw[Sem.run_pure]
   have:(List.replicate m zs).flatten=[]:=gP (by
    rw[List.length_flatten,DK,O2,FJ]
    exact h0)
   rw[this]
  ·simp only[Sem.run_bind,KJ,Result.andThen,Sem.run_pure]
   congr 1
   apply kY
   exact JU UA m
 constructor
 ·intro aR w' o9
  unfold Builtin.append_
  simp only[sU,l7,uF,Sem.run_bind,bI ht,bI hxt,Result.andThen,eU hE,fU,asInt,asIntOf,KI,aD hn3,KZ,aD hn4,bL,Sem.run_pure,aH aR,wF,jT,fE,AK]
  cases A with
  |none=>
   simp only[Sem.run_pure] at o9 ⊢
   injection o9 with _ o9
   subst o9
   rfl
  |some a=>
   simp only at o9 ⊢
   simp only[Sem.run_bind,o9,Result.andThen,Sem.run_pure]
 ·intro gL
  have WE:¬(n+m<=c):=by omega
  have hn1:¬(((n+m:Nat):Int)>IntKind.i64.max/\(True\/i.bytes=0)):=by
   rintro⟨h1,_⟩
   have:IntKind.i64.max=9223372036854775807:=by decide
   omega
  have AO:=growslice_fits gL hb
  have hn2:¬(Builtin.nextslicecap (n+m) c * i.bytes>2 ^ 48):=by rw[<-b3];omega
  obtain⟨cap,QN⟩:∃cap,cap=(Question.appendCap (n+m) c e).cut (w.tape w.drawn (.appendCap (n+m) c e)):=⟨_,rfl⟩
  have EC:n+m<=cap:=by rw[QN];simp [Question.cut]
  have CQ:(choose (.appendCap (n+m) c e)).run P w=.ok cap w.drew:=by
   rw[QN]
   simp only[choose,Sem.run,Question.forced]
   rfl
  have aBZ:∀k W,(askRoom k).run P W=.ok () W:=fun k W=>by
   unfold askRoom
   split <;> rfl
  obtain⟨z,KJ,UA⟩:=qG hE hz w.drew
  refine⟨cap,(Builtin.zeroCells z.cells (cap - (n+m))).toList,EC,?_,by simp [Builtin.zeroCells,<-UA]⟩
  have aG4:(⟨BT⟩:Array Value)++⟨(List.replicate m zs).flatten⟩++Builtin.zeroCells z.cells (cap - (n+m))=⟨BT++(List.replicate m zs).flatten++(Builtin.zeroCells z.cells (cap - (n+m))).toList⟩:=kY (by simp)
  unfold Builtin.append_
  simp only[sU,l7,uF,Sem.run_bind,bI ht,bI hxt,Result.andThen,eU hE,fU,asInt,asIntOf,KI,aD hn3,KZ,aD hn4,bL,Sem.run_pure,aD WE,aD hn1,aD hn2,CQ,aBZ,hold w.drew rfl,wF,jT,fE,AK,KJ,newRow,newObj,Sem.run]
  rw[aG4]
  rfl
theorem aEk {P:Program} {H:aA} {w:World} (hH:fQ w H) {t xt ty:TypeId} {s x:D} {v u:Value} {K:D->aA->Prop} (h:VI P H t xt s x K) (hs:D.is w H.others s v) (hx:D.is w H.others x u):
  ∃r d' w' H',(Builtin.append_ #[t,xt] ty #[v,u]).run P w=.ok r w'/\D.is w' H'.others d' r/\fQ w' H'/\Ev H w H' w'/\K d' H':=by
 unfold VI at h
 split at h
 ·rename_i e _ _ _ kx _ _ _ kn n hT hX
  have ex:=dF hx
  subst ex
  split at h
  ·rename_i dE sz sY zs hE
   obtain⟨FJ,aHE,uR,Q0,h⟩:=h
   obtain⟨d,i,a1,a2,a3⟩:=cU hT
   injection a3 with a3
   cases d <;> simp [iU] at a3
   subst a3
   obtain⟨dx,ix,c1,c2,c3⟩:=cU hX
   injection c3 with c3
   cases dx <;> simp [iU] at c3
   rcases(show(∃b o wT k n',s=.os b o wT k n')\/¬∃b o wT k n',s=.os b o wT k n' from Classical.em _) with⟨b,o,wT,k,n',rfl⟩|aXb
   ·simp only at h
    obtain⟨rfl,hn,hb,h⟩:=h
    obtain⟨m,rfl⟩:∃m:Nat,n=(m:Int):=Int.eq_ofNat_of_zero_le hn
    split at h
    ·rename_i XH o' lH gO QF
     obtain⟨rfl,rfl,rfl,aR,h⟩:=h
     simp only[D.is] at hs
     obtain⟨A,c,rfl,hnc,hA⟩:=hs
     rw[bL] at hb h
     have yX:(List.replicate m (zs.map D.val)).length=m:=zO
     have kQ:(List.replicate m (zs.map D.val)).flatten=((List.replicate m zs).flatten).map .val:=by
      rw[List.map_flatten,DK]
     refine W4 (els:=List.replicate m (zs.map .val)) (us:=(List.replicate m zs).flatten) hH (ty:=XH) QF aR FJ (by rw[yX];exact h) hnc hA (fun e he=>by rw[(List.mem_replicate.1 he).2,bK,FJ]) ?_ (by rw[yX,List.length_flatten,DK,O2,FJ]) fun BT hold=>?_
     ·rw[kQ]
      refine kP _ fun v hv=>?_
      obtain⟨l,hl,hv⟩:=List.mem_flatten.1 hv
      rw[(List.mem_replicate.1 hl).2] at hv
      exact(eD.1 Q0) v hv
     ·rw[yX]
      exact GD (P:=P) (w:=w) (ty:=ty) a1 c1 hE rfl FJ A n' c m BT hold uR (Int.ofNat_le.1 hb)
    ·exact h.elim
   obtain⟨A,rfl,hn,hk⟩:∃A,v=.slice A 0 0/\0<n/\((n * (sY:Int)<=140737488355328/\∀b,H b=none->K (.os b 0 sz 0 n.toNat) (H.bH b (.row e 0 sz (List.replicate n.toNat (zs.map .val)))))\/
     (n * (sY:Int)<=281474976710656/\∀b c,H b=none->n.toNat<=c->K (.val (.slice (some ⟨b,0,none⟩) n.toNat c)) (H.bH b (.row e 0 sz (List.replicate c (zs.map .val)))))):=by
    split at h
    ·exact⟨none,dF hs,h⟩
    ·simp only[D.is] at hs
     obtain⟨A,rfl⟩:=hs
     exact⟨A,rfl,h⟩
    ·exact(aXb ⟨_,_,_,_,_,rfl⟩).elim
    ·exact h.elim
   obtain⟨m,rfl⟩:∃m:Nat,n=(m:Int):=Int.eq_ofNat_of_zero_le (by omega)
   have hm:0<m:=by omega
   have CT:m * sY<=281474976710656:=by
    have:((m * sY:Nat):Int)<=281474976710656:=by
     rw[Int.natCast_mul]
     rcases hk with hk|hk
     ·exact Int.le_trans hk.1 (by omega)
     ·exact hk.1
    omega
   have aX9:m<=281474976710656:=tU (Nat.le_mul_of_pos_right m (Nat.pos_of_ne_zero uR)) CT
   obtain⟨ii,b1,b2,b3,b4,b5⟩:=nD hE w
   simp only at b3
   have KZ:∀W,(typeInfo e).run P W=.ok ii W:=fun W=>by
    obtain⟨i',d1,_,_,_,d5⟩:=nD hE W
    rw[b5] at d5
    injection d5 with d5
    subst d5
    exact d1
   have CV:Builtin.nextslicecap (0+m) 0=m:=by
    unfold Builtin.nextslicecap
    rw[aH (by omega),iZ]
   have KI:IntKind.i64.wrap (m:Int)=(m:Int):=by rw[IntKind.wrap_i64];omega
   have WE:¬(0+m<=0):=by omega
   have hn1:¬(((0+m:Nat):Int)>IntKind.i64.max/\(True\/ii.bytes=0)):=by
    rintro⟨h1,_⟩
    have:IntKind.i64.max=9223372036854775807:=by decide
    omega
   have hn2:¬(Builtin.nextslicecap (0+m) 0 * ii.bytes>2 ^ 48):=by rw[CV,<-b3];omega
   have hn3:¬((m:Int)<0):=by omega
   have hn4:¬((m:Int) * (ii.bytes:Int)>2 ^ 48):=by
    rw[<-b3]
    have:((m * sY:Nat):Int)<=281474976710656:=by omega
    rw[Int.natCast_mul] at this
    omega
   have hn5:¬(m * sz=0):=by
    intro h0
    rcases Nat.mul_eq_zero.1 h0 with h1|h1 <;> omega
   obtain⟨cap,QN⟩:∃cap,cap=(Question.appendCap (0+m) 0 e).cut (w.tape w.drawn (.appendCap (0+m) 0 e)):=⟨_,rfl⟩
   have EC:0+m<=cap:=by rw[QN];simp [Question.cut]
   have CQ:(choose (.appendCap (0+m) 0 e)).run P w=.ok cap w.drew:=by
    rw[QN]
    simp only[choose,Sem.run,Question.forced]
    rfl
   have aBZ:∀k W,(askRoom k).run P W=.ok () W:=fun k W=>by
    unfold askRoom
    split <;> rfl
   obtain⟨z,KJ,UA⟩:=qG hE rfl w.drew
   have hzs:z.cells.size=zs.length:=by rw[<-jS,UA]
   have hfc:∀W,(Builtin.firstCells sz 0 (.slice A 0 0)).run P W=.ok #[] W:=fun W=>by cases A <;> simp [Builtin.firstCells,loadCells,loadCellsFrom]
   have uW:(Builtin.append_ #[t,xt] ty #[.slice A 0 0,.int kn (m:Int)]).run P w=.ok (.slice (some ⟨w.heap.size,0,none⟩) (0+m) cap) (w.drew.alloc (Obj.cells (Builtin.zeroCells z.cells m++Builtin.zeroCells z.cells (cap - (0+m))) e)):=by
    unfold Builtin.append_
    simp only[sU,l7,uF,Sem.run_bind,bI a1,bI c1,Result.andThen,eU hE,fU,asInt,asIntOf,KI,aD hn3,KZ,aD hn4,bL,Sem.run_pure,aD WE,aD hn1,aD hn2,CQ,aBZ,hfc,wF,jT,fE,aD hn5,KJ,newRow,newObj,Sem.run]
    rw[Array.empty_append]
    rfl
   have uS:(Builtin.zeroCells z.cells m++Builtin.zeroCells z.cells (cap - (0+m))).size=cap * sz:=by
    simp only[Array.size_append,Builtin.zeroCells,Array.size_map,Array.size_range]
    rw[hzs,FJ,<-eK]
    congr 1
    omega
   have WI:∀S,dC (w.drew.alloc (Obj.cells (Builtin.zeroCells z.cells m++Builtin.zeroCells z.cells (cap - (0+m))) e)) S w.heap.size sz 0 (List.replicate cap (zs.map .val)):=fun S=>by
    have:=aAP (S:=S) (k:=cap - (0+m)) (m:=m) UA FJ Q0 (heap_alloc_new w.drew (Obj.cells (Builtin.zeroCells z.cells m++Builtin.zeroCells z.cells (cap - (0+m))) e))
    rwa[show m+(cap - (0+m))=cap by omega] at this
   rcases hk with⟨_,hk⟩|⟨_,hk⟩
   ·refine⟨_,_,_,_,uW,?_,?_,(pQ H w).trans (iO _ _ hH.drew),hk w.heap.size (gZ hH)⟩
    ·simp only[D.is,bL]
     refine⟨_,_,by rw[iZ],by omega,.inr ⟨by simp,_,e,(0,0),heap_alloc_new w.drew _,?_⟩⟩
     rw[uS,iZ,iZ]
     exact fA _
    ·refine fQ.alloc hH.drew ⟨_,(0,0),heap_alloc_new w.drew _,LB _,?_,?_⟩
     ·rw[uS,zO,bL,iZ]
      exact jP _ (by omega)
     ·have h1:∀S,dC (w.drew.alloc (Obj.cells (Builtin.zeroCells z.cells m++Builtin.zeroCells z.cells (cap - (0+m))) e)) S w.heap.size sz 0 (List.replicate m (zs.map .val)):=fun S=>by
       have:=n3 (WI S) m
       rwa[List.take_replicate,uI (by omega)] at this
      exact h1 _
   ·refine⟨_,_,_,_,uW,?_,?_,(pQ H w).trans (iO _ _ hH.drew),hk w.heap.size cap (gZ hH) (by omega)⟩
    ·simp only[D.is,bL,iZ]
    ·refine fQ.alloc hH.drew ⟨_,(0,0),heap_alloc_new w.drew _,LB _,?_,?_⟩
     ·rw[uS,zO,iZ]
      exact fA _
     ·exact WI _
  ·exact h.elim
 ·exact h.elim
def YE (x:D) (K:D->Prop):Prop:=
 match x with
 | .val (.slice _ _ c)=>K (.val (.int .i64 (c:Int)))
 | .ND=>K (.val (.int .i64 0))
 |_=>False
def St.xT (s:St) (xs:Array Operand):List D:=xs.toList.map s.ev
def St.parts (s:St) (ps:Array (Nat×Operand)):List (Nat×D):=ps.toList.map fun p=>(p.1,s.ev p.2)
theorem cH.P4 {cx:Cx} {s:St} {a:Act} {w:World} (m:cH cx s a w) (xs:Array Operand):aW w s.H.others (s.xT xs) (xs.map a.eval).toList:=by
 unfold St.xT
 rw[Array.toList_map]
 induction xs.toList with
 |nil=>simp [aW]
 |cons x l ih=>simp only[fT,aW];exact⟨_,_,rfl,m.uA x,ih⟩
theorem cH.I5 {cx:Cx} {s:St} {a:Act} {w:World} (m:cH cx s a w) (ps:Array (Nat×Operand)):lA w s.H.others (s.parts ps) (ps.map fun (i,x)=>(i,a.eval x)).toList:=by
 unfold St.parts
 rw[Array.toList_map]
 induction ps.toList with
 |nil=>simp [lA]
 |cons p l ih=>
  obtain⟨i,x⟩:=p
  simp only[fT,lA]
  exact⟨_,_,rfl,m.uA x,ih⟩
theorem cH.aHc {cx:Cx} {s:St} {a:Act} {w:World} (m:cH cx s a w) (x:Option Operand):FP w s.H.others (x.map s.ev) (x.map a.eval):=by
 cases x with
 |none=>trivial
 |some x=>exact m.uA x
def MM (P:Program) (s:St) (b:Builtin) (args:List D) (ts:Array TypeId) (K:D->aA->Prop):Prop:=
 match b,args with
 | .append,[x,y]=>(match ts.toList with
  |[t,xt]=>(match aS P xt with
   |some ⟨.int _,_,_,_⟩=>VI P s.H t xt x y K
   |_=>VF P s.H t xt x y K)
  |_=>False)
 | .cap,[x]=>(match ts.toList with
  |[t]=>(match aS P t with
   |some ⟨.slice _,_,_,_⟩=>YE x fun d=>K d s.H
   |_=>False)
  |_=>False)
 | .len,[x]=>(match ts.toList with
  |[t]=>uZ P s.H t x fun d=>K d s.H
  |_=>False)
 | .min,xs=>x7 xs fun d=>K d s.H
 | .max,xs=>x6 xs fun d=>K d s.H
 | .clear,[x]=>(match ts.toList with
  |[t]=>CG P s.H t x K
  |_=>False)
 | .copy,[x,y]=>(match ts.toList with
  |[t,_]=>wW P s.H t x y K
  |_=>False)
 |_,_=>False
theorem aEm {P:Program} {s:St} {w:World} (hH:fQ w s.H) {b:Builtin} {args:List D} {vs:List Value} {ts:Array TypeId} {ty:TypeId} {cs:Array Bool} {K:D->aA->Prop} (h:MM P s b args ts K) (hx:aW w s.H.others args vs):
  ∃r d' w' H',(builtin b ts ty cs ⟨vs⟩).run P w=.ok (.value r) w'/\D.is w' H'.others d' r/\fQ w' H'/\Ev s.H w H' w'/\K d' H':=by
 have pH:∀{sm:Sem Value} {r:Value} {w':World},sm.run P w=.ok r w'->(do pure (Next.value (<-sm)):Sem Next).run P w=.ok (.value r) w':=fun h=>by
  simp only[Sem.run_bind,h,Result.andThen,Sem.run_pure]
 unfold MM at h
 split at h
 ·split at h
  ·rename_i t xt T8
   simp only[aW] at hx
   obtain⟨v,_,rfl,hv,u,_,rfl,hu,rfl⟩:=hx
   have e:ts= #[t,xt]:=kY (by simpa using T8)
   subst e
   split at h
   ·obtain⟨r,d',w',H',h1,h2,h3,h4,h5⟩:=aEk (ty:=ty) hH h hv hu
    exact⟨r,d',w',H',pH h1,h2,h3,h4,h5⟩
   ·obtain⟨r,d',w',H',h1,h2,h3,h4,h5⟩:=aEj (ty:=ty) hH h hv hu
    exact⟨r,d',w',H',pH h1,h2,h3,h4,h5⟩
  ·exact h.elim
 ·split at h
  ·rename_i t T8
   split at h
   ·rename_i hT
    obtain⟨dd,ii,a1,a2,a3⟩:=cU hT
    injection a3 with a3
    cases dd <;> simp [iU] at a3
    simp only[aW] at hx
    obtain⟨v,_,rfl,hv,rfl⟩:=hx
    have e:ts= #[t]:=kY (by simpa using T8)
    subst e
    unfold YE at h
    split at h
    ·have e:=dF hv
     subst e
     exact⟨_,_,w,s.H,pH (by simp [Builtin.cap_,bI a1,goInt]),pA _,hH,gC _ _,h⟩
    ·simp only[D.is] at hv
     obtain⟨A,rfl⟩:=hv
     exact⟨.int .i64 0,_,w,s.H,pH (by simp [Builtin.cap_,bI a1,goInt]),pA _,hH,gC _ _,h⟩
    ·exact h.elim
   ·exact h.elim
  ·exact h.elim
 ·split at h
  ·rename_i t T8
   simp only[aW] at hx
   obtain⟨v,_,rfl,hv,rfl⟩:=hx
   have e:ts= #[t]:=kY (by simpa using T8)
   subst e
   obtain⟨u,h1,h2⟩:=aC6 (ty:=ty) hH h hv
   exact⟨u,_,w,s.H,pH h1,pA _,hH,gC _ _,h2⟩
  ·exact h.elim
 ·obtain⟨u,h1,h2⟩:=aC8 (P:=P) (ts:=ts) (ty:=ty) h hx
  exact⟨u,_,w,s.H,pH h1,pA _,hH,gC _ _,h2⟩
 ·obtain⟨u,h1,h2⟩:=aC7 (P:=P) (ts:=ts) (ty:=ty) h hx
  exact⟨u,_,w,s.H,pH h1,pA _,hH,gC _ _,h2⟩
 ·split at h
  ·rename_i t T8
   simp only[aW] at hx
   obtain⟨v,_,rfl,hv,rfl⟩:=hx
   have e:ts= #[t]:=kY (by simpa using T8)
   subst e
   obtain⟨r,d',w',H',h1,h2,h3,h4,h5⟩:=aC4 (ty:=ty) hH h hv
   exact⟨r,d',w',H',pH h1,h2,h3,h4,h5⟩
  ·exact h.elim
 ·split at h
  ·rename_i t xt T8
   simp only[aW] at hx
   obtain⟨v,_,rfl,hv,u,_,rfl,hu,rfl⟩:=hx
   have e:ts= #[t,xt]:=kY (by simpa using T8)
   subst e
   obtain⟨r,d',w',H',h1,h2,h3,h4,h5⟩:=aC5 (xt:=xt) (ty:=ty) hH h hv hu
   exact⟨r,d',w',H',pH h1,h2,h3,h4,h5⟩
  ·exact h.elim
 ·exact h.elim
def TL (P:Program) (s:St) (c:Call) (K:D->aA->Prop) (other:Prop):Prop:=
 match c.callee with
 | .value f=>(match s.ev f with
  | .fn g dO=>aT P g (s.xT c.args++dO) s.H K
  | .fb g first dO=>aT P g (first++(s.xT c.args++dO)) s.H K
  |_=>other)
 | .builtin b=>MM P s b (s.xT c.args) c.argTypes K
 |_=>other
theorem oM {w:World} {S:Nat->Prop}:∀{cs ds:List D} {vs us:List Value},aW w S cs vs->aW w S ds us->aW w S (cs++ds) (vs++us)
 |[],ds,vs,us,h,h'=>by simp only[aW] at h;subst h;exact h'
 |d::cs,ds,vs,us,h,h'=>by
  simp only[aW] at h
  obtain⟨u,DV,rfl,h2,h⟩:=h
  simp only[eT,aW]
  exact⟨u,_,rfl,h2,oM h h'⟩
def xE (P:Program) (op:BinOp) (t:TypeId) (n:Nat) (K:D->Prop):Prop:=match aS P t with
 |some ⟨.slice _,_,_,_⟩=>∀b,(n≠0->b=false)->m8 op b K
 |_=>False
def SS (P:Program) (op:BinOp) (t:TypeId) (x y:D) (K:D->Prop):Prop:=
 match x,y with
 | .seq _ els,.val (.slice none _ _)=>xE P op t els.length K
 | .os _ _ _ _ n,.val (.slice none _ _)=>xE P op t n K
 | .ND,.val (.slice none _ _)=>xE P op t 0 K
 |x,y=>wU P op t x y K
theorem OC {P:Program} {op:BinOp} {t:TypeId} {n:Nat} {x:D} {K:D->Prop} (hn:∀b,x.mK=some b->n≠0/\b=false) (h:oZ P op t x K):xE P op t n K:=by
 unfold oZ at h
 unfold xE
 split at h
 ·rename_i hT hb
  rw[hT]
  intro b mW
  obtain⟨h1,rfl⟩:=hn _ hb
  rw[mW h1]
  exact h
 ·exact h.elim
theorem aGJ {P:Program} {op:BinOp} {t:TypeId} {x y:D} {K:D->Prop} (h:wU P op t x y K):SS P op t x y K:=by
 unfold SS
 split
 ·refine OC (x:=.seq _ _) (fun b hb=>?_) h
  simp only[D.mK] at hb
  split at hb
  ·cases hb
  ·rename_i fP;injection hb with hb;exact⟨fP,hb.symm⟩
 ·refine OC (x:=.os _ _ _ _ _) (fun b hb=>?_) h
  simp only[D.mK] at hb
  split at hb
  ·cases hb
  ·rename_i fP;injection hb with hb;exact⟨fP,hb.symm⟩
 ·exact OC (x:=.ND) (fun b hb=>by simp [D.mK] at hb) h
 ·exact h
theorem JC {P:Program} {w:World} {op:BinOp} {t:TypeId} {p q:Operand} {k m c1 n c:Nat} {A:Option Addr} {K:D->Prop} (h:xE P op t k K) (hA:k≠0->A.isNone=false):
  ∃u,(do eqGuard op t p q (.slice A m c1) (.slice none n c);binOp op t (.slice A m c1) (.slice none n c)).run P w=.ok u w/\K (.val u):=by
 unfold xE at h
 split at h
 ·rename_i hT
  obtain⟨d,i,h1,h2,h3⟩:=cU hT
  injection h3 with h3
  cases d <;> simp [iU] at h3
  subst h3
  have hg:(eqGuard op t p q (.slice A m c1) (.slice none n c)).run P w=.ok () w:=nL (.inl (by simp))
  simp only[Sem.run_bind,hg,Result.andThen]
  exact zC (h A.isNone hA) (IF 9999 h1 A m c1 n c) rfl rfl
 ·exact h.elim
theorem aEn {P:Program} {w:World} {S:Nat->Prop} {op:BinOp} {t:TypeId} {x y:D} {a b:Value} {p q:Operand} {K:D->Prop} (h:SS P op t x y K) (hx:D.is w S x a) (hy:D.is w S y b):
  ∃u,(do eqGuard op t p q a b;binOp op t a b).run P w=.ok u w/\K (.val u):=by
 unfold SS at h
 split at h
 ·have e2:=dF hy
  subst e2
  simp only[D.is] at hx
  obtain⟨A,c,rfl,h1,h2⟩:=hx
  refine JC h fun fP=>?_
  rcases h2 with h2|⟨_,_,rfl,_⟩
  ·subst h2;exact absurd rfl fP
  ·rfl
 ·have e2:=dF hy
  subst e2
  simp only[D.is] at hx
  obtain⟨A,c,rfl,h1,h2⟩:=hx
  refine JC h fun fP=>?_
  rcases h2 with h2|⟨rfl,_⟩
  ·omega
  ·rfl
 ·have e2:=dF hy
  subst e2
  simp only[D.is] at hx
  obtain⟨A,rfl⟩:=hx
  exact JC h fun fP=>absurd rfl fP
 ·exact aC3 h hx hy
def SU (P:Program) (H:aA) (a b:TypeId) (x:D) (K:D->Prop):Prop:=
 match x with
 | .os blk _ _ _ n=>(match aS P a,aS P b with
  |some ⟨.slice e,_,_,_⟩,some ⟨.slice _,_,_,_⟩=>a=b/\n≠0/\(match aS P e with
   |some ⟨.int .u8,_,_,_⟩=>(match H blk with
    |some (.row _ _ _ _)=>K x
    |_=>False)
   |_=>False)
  |_,_=>GN P H a b x K)
 |_=>GN P H a b x K
theorem aAj {P:Program} {H:aA} {a b:TypeId} {x:D} {K:D->Prop} (h:GN P H a b x K):SU P H a b x K:=by
 unfold SU
 split
 ·split
  ·rename_i hA hB
   unfold GN at h
   rw[hA,hB] at h
   exact h.elim
  ·exact h
 ·exact h
theorem NI {w:World} {b k:Nat} {cs:Array Value} {t:TypeId} {fr:Nat×Nat} (hb:w.heap[b]?=some (Obj.cells cs t fr)):(w.freeze ⟨b,k,none⟩ 1).heap[b]?=some (Obj.cells cs t (if fr.1==fr.2 then (k,k+1) else (min fr.1 k,max fr.2 (k+1)))):=by
 unfold World.freeze
 rw[aD (by decide)]
 simp [zR,hb]
theorem CM {w:World} {b c k:Nat} (h:c≠b):(w.freeze ⟨b,k,none⟩ 1).heap[c]?=w.heap[c]?:=by
 unfold World.freeze
 rw[aD (by decide)]
 simp [zR,Ne.symm h]
theorem Y3 {H:aA} {w:World} (hH:fQ w H) {b:Nat} {t:TypeId} {o sz:Nat} {els:List (List D)} {cs:Array Value} {fr:Nat×Nat} {t':TypeId} (hb:H b=some (.row t o sz els)) (hw:w.heap[b]?=some (Obj.cells cs t' fr)):
  fQ (w.freeze ⟨b,cs.size,none⟩ 1) H/\Ev H w H (w.freeze ⟨b,cs.size,none⟩ 1):=by
 obtain⟨cs0,fr0,h1,h2,h3,h4⟩:=hH _ _ hb
 rw[hw] at h1
 injection h1 with h1
 injection h1 with e1 e2 e3
 subst e1 e2 e3
 have WJ:H.bH b (.row t' o sz els)=H:=funext fun c=>by
  by_cases e:c=b
  ·subst e;rw[aQ,hb]
  ·rw[aP e]
 have aHA:=NI (k:=cs.size) hw
 have lE:(w.freeze ⟨b,cs.size,none⟩ 1).heap.size=w.heap.size:=by unfold World.freeze;rw[aD (by decide)];simp
 have iP:Ev H w (H.bH b (.row t' o sz els)) (w.freeze ⟨b,cs.size,none⟩ 1):=mV (by rw[hb];simp) (by unfold World.freeze;rw[aD (by decide)]) (by unfold World.freeze;rw[aD (by decide)]) (by unfold World.freeze;rw[aD (by decide)]) lE (fun c hc=>CM hc) fun cs2 t2 fr2 h=>by
  rw[hw] at h
  injection h with h
  injection h with e1 e2 e3
  subst e1 e2 e3
  exact⟨_,_,aHA,rfl⟩
 have eX:=kS hH iP (fun c hc=>CM hc) ⟨cs,_,aHA,by
  unfold XQ at h2 ⊢
  by_cases e:fr.1=fr.2
  ·rw[aH (by simpa using e)];exact .inr (fA _)
  ·rw[aD (by simpa using e)]
   refine .inr ?_
   have:=h2.resolve_left e
   simp only
   omega,h3,by
  have AW:∀(i:Nat),(w.freeze ⟨b,cs.size,none⟩ 1).cell? ⟨b,i,none⟩=w.cell? ⟨b,i,none⟩:=fun i=>by
   rw[cell_of_row _ _ _ _ _ _ aHA,cell_of_row _ _ _ _ _ _ hw]
  refine eY fun i el hi=>?_
  obtain⟨g1,g2⟩:=eA h4 i el hi
  refine⟨g1,?_⟩
  obtain⟨vs,g3,g4⟩:=dR g2
  refine dV (bV iP.kept _ g3) fun q v hq=>?_
  rw[AW]
  exact g4 q v hq⟩
 rw[WJ] at iP eX
 exact⟨eX,iP⟩
theorem aEr {P:Program} {H:aA} {w:World} (hH:fQ w H) {J3 dst:TypeId} {x:D} {v:Value} {K:D->Prop} (h:SU P H J3 dst x K) (hx:D.is w H.others x v):∃u d w',(convert J3 dst v).run P w=.ok u w'/\D.is w' H.others d u/\fQ w' H/\Ev H w H w'/\K d:=by
 have BT:GN P H J3 dst x K->∃u d w',(convert J3 dst v).run P w=.ok u w'/\D.is w' H.others d u/\fQ w' H/\Ev H w H w'/\K d:=fun h=>by
  obtain⟨u,h1,h2⟩:=aEq hH h hx
  exact⟨u,_,w,h1,pA _,hH,gC _ _,h2⟩
 unfold SU at h
 split at h
 ·rename_i blk o sz k n
  split at h
  ·rename_i e _ _ _ _ _ _ _ hA hB
   obtain⟨rfl,hn,h⟩:=h
   split at h
   ·rename_i hE
    split at h
    ·rename_i ty o' wT els hb
     obtain⟨dA,iA,a1,a2,a3⟩:=cU hA
     obtain⟨dE,iE,c1,c2,c3⟩:=cU hE
     injection a3 with a3
     cases dA <;> simp [iU] at a3
     subst a3
     injection c3 with c3
     cases dE <;> simp [iU] at c3
     subst c3
     have hx0:=hx
     simp only[D.is] at hx
     obtain⟨A,c,rfl,hc,hA2⟩:=hx
     rcases hA2 with hA2|⟨rfl,cs,t,fr,hw,aR⟩
     ·omega
     ·obtain⟨h1,h2⟩:=Y3 hH hb hw
      refine⟨_,.os blk o sz k n,_,?_,pN h2.kept _ hx0,h1,h2,h⟩
      have xA:w.shape? blk=some (t,cs.size):=by unfold World.shape?;rw[hw]
      simp [convert,bI a1,bI c1,markStringish,shape,freeze,Sem.run,Result.andThen,xA]
    ·exact h.elim
   ·exact h.elim
  ·exact BT h
 ·exact BT h
def vU (b:Bool) (A B:Prop):Prop:=if b=true then A else B
theorem oL (b:Bool) (A B:Prop):vU b A B=if b=true then A else B:=rfl
theorem aEJ (c:Prop) [Decidable c] (A B:Prop):(if c then A else B)=((c->A)/\(¬c->B)):=by
 by_cases h:c <;> simp [h]
theorem JF {b:Bool} {A B:Prop}:vU b A B↔(b=true->A)/\(b=false->B):=by cases b <;> simp [vU]
theorem sR {b eC:Bool} {A B:Prop}:vU (b==eC) A B↔(b=eC->A)/\(b= !eC->B):=by cases b <;> cases eC <;> simp [vU]
theorem OQ {b:Bool} {A B:Prop} (h:vU b A B):b=true->A:=fun e=>by subst e;simpa [vU] using h
theorem OP {b:Bool} {A B:Prop} (h:vU b A B):b=false->B:=fun e=>by subst e;simpa [vU] using h
def dM (cx:Cx) (o:Oper) (s:St) (K:St->Prop):Prop:=
 match o.op with
 | .move x| .assign x=>K (s.put o.dst (s.ev x))
 | .pick c x y=>(match s.ev c with
  | .val (.bool b)=>vU b (K (s.put o.dst (s.ev x))) (K (s.put o.dst (s.ev y)))
  |_=>False)
 | .alloc t=>TE cx.P s.H t fun d H=>K ((s.dW H).put o.dst d)
 | .box t x=>TJ s.H t (s.ev x) fun d H=>K ((s.dW H).put o.dst d)
 | .build t ps=>PR cx.P t (s.parts ps) fun d=>K (s.put o.dst d)
 | .buildSlice t n ps=>O7 cx.P s.H t n (s.parts ps) fun d H=>K ((s.dW H).put o.dst d)
 | .load t x=>BQ cx.P s.H t (s.ev x) fun d=>K (s.put o.dst d)
 | .store t x y=>PH cx.P s.H t (s.ev x) (s.ev y) fun H=>K ((s.dW H).put o.dst (.val undef))
 | .nilCheck x=>RK (s.ev x) fun d=>K (s.put o.dst d)
 | .binOp op t x y _=>SS cx.P op t (s.ev x) (s.ev y) fun d=>K (s.put o.dst d)
 | .unOp op _ x=>SN op (s.ev x) fun d=>K (s.put o.dst d)
 | .convert a b x=>SU cx.P s.H a b (s.ev x) fun d=>K (s.put o.dst d)
 | .makeFunc (.func f) first dO=>(match s.xT first with
  |[]=>K (s.put o.dst (.fn f (s.xT dO)))
  |d::ds=>K (s.put o.dst (.fb f (d::ds) (s.xT dO))))
 | .makeSlice t n c=>UK cx.P s.H t (s.ev n) (s.ev c) fun d H=>K ((s.dW H).put o.dst d)
 | .slice t x lo hi mx=>SB cx.P s.H t (s.ev x) (lo.map s.ev) (hi.map s.ev) (mx.map s.ev) fun d=>K (s.put o.dst d)
 | .fieldAddr t x f=>P6 cx.P t (s.ev x) f fun d=>K (s.put o.dst d)
 | .field t x f=>lR cx.P t (s.ev x) f fun d=>K (s.put o.dst d)
 | .indexAddr t x i=>Q9 cx.P s.H t (s.ev x) (s.ev i) fun d=>K (s.put o.dst d)
 | .index t x i=>RA cx.P t (s.ev x) (s.ev i) fun d=>K (s.put o.dst d)
 | .extract x i=>P5 (s.ev x) i fun d=>K (s.put o.dst d)
 | .call c=>TL cx.P s c (fun d H=>K ((s.dW H).put o.dst d)) (WO cx o K s)
 | .makeMap _ none=>ZV s.H fun d H=>K ((s.dW H).put o.dst d)
 | .lookup t x i ok=>LL cx.P s.H t (s.ev x) (s.ev i) ok fun d=>K (s.put o.dst d)
 | .mapUpdate t x i y=>OB cx.P s.H t (s.ev x) (s.ev i) (s.ev y) fun H=>K ((s.dW H).put o.dst (.val undef))
 | .insert t x i y=>OB cx.P s.H t (s.ev x) (s.ev i) (s.ev y) fun H=>K ((s.dW H).put o.dst (.val undef))
 |_=>WO cx o K s
theorem nO {cx:Cx} {o:Oper} {s:St} {K:St->Prop} (hd:BS cx.n o.dst) (h:dM cx o s K):WO cx o K s:=by
 have pH:∀{P:Program} {w:World} {sm:Sem Value} {r:Value} {w':World},sm.run P w=.ok r w'->(do pure (Next.value (<-sm)):Sem Next).run P w=.ok (.value r) w':=fun h=>by
  simp only[Sem.run_bind,h,Result.andThen,Sem.run_pure]
 unfold dM at h
 split at h
 case h_1 x e=>exact jC (by simp [e]) hd fun a w m=>⟨_,_,by simp [execOp,e],m.uA x,h⟩
 case h_2 x e=>exact jC (by simp [e]) hd fun a w m=>⟨_,_,by simp [execOp,e],m.uA x,h⟩
 case h_3 c x y e=>
  refine jC (by simp [e]) hd fun a w m=>?_
  split at h
  ·rename_i b hb
   have hc:=m.uA c
   rw[hb] at hc
   have eM:=dF hc
   cases b with
   |true=>exact⟨_,_,by simp [execOp,e,eM,asBool],m.uA x,OQ h rfl⟩
   |false=>exact⟨_,_,by simp [execOp,e,eM,asBool],m.uA y,OP h rfl⟩
  ·exact h.elim
 case h_4 t e=>
  refine r9 (by simp [e]) hd fun a w m=>?_
  obtain⟨r,d,w',H',h1,h2,h3,h4,h5⟩:=aEi m.H h
  exact⟨r,w',d,H',by simp only[execOp,e];exact pH h1,h2,h3,h4,h5⟩
 case h_5 t x e=>
  refine r9 (by simp [e]) hd fun a w m=>?_
  obtain⟨r,d,w',H',h1,h2,h3,h4,h5⟩:=aEp (P:=cx.P) m.H h (m.uA x)
  exact⟨r,w',d,H',by simp only[execOp,e];exact pH h1,h2,h3,h4,h5⟩
 case h_6 t ps e=>
  refine jC (by simp [e]) hd fun a w m=>?_
  obtain⟨r,d,h1,h2,h3⟩:=aEl h (m.I5 ps)
  exact⟨r,d,by simp only[execOp,e];exact pH h1,h2,h3⟩
 case h_7 t n ps e=>
  refine r9 (by simp [e]) hd fun a w m=>?_
  obtain⟨r,d,w',H',h1,h2,h3,h4,h5⟩:=W7 m.H h (m.I5 ps)
  exact⟨r,w',d,H',by simp only[execOp,e];exact pH h1,h2,h3,h4,h5⟩
 case h_8 t x e=>
  refine jC (by simp [e]) hd fun a w m=>?_
  obtain⟨r,d,h1,h2,h3⟩:=W9 m.H h (m.uA x)
  exact⟨r,d,by simp only[execOp,e];exact pH h1,h2,h3⟩
 case h_9 t x y e=>
  refine MG (by simp [e]) hd fun a w m=>?_
  obtain⟨w',H',h1,h2,h3,h4⟩:=aFB m.H h (m.uA x) (m.uA y)
  exact⟨w',H',by simp only[execOp,e,Sem.run_bind,h1,Result.andThen,Sem.run_pure],h2,h3,h4⟩
 case h_10 x e=>
  refine jC (by simp [e]) hd fun a w m=>?_
  obtain⟨h1,h2⟩:=aEz (P:=cx.P) e h (m.uA x)
  exact⟨_,_,h1,m.uA x,h2⟩
 case h_11 op t x y _ e=>
  refine jC (by simp [e]) hd fun a w m=>?_
  obtain⟨r,h1,h2⟩:=aEn (p:=x) (q:=y) h (m.uA x) (m.uA y)
  exact⟨r,_,by simp only[execOp,e];exact pH h1,pA _,h2⟩
 case h_12 op _ x e=>
  refine jC (by simp [e]) hd fun a w m=>?_
  obtain⟨r,h1,h2⟩:=aFC (P:=cx.P) h (m.uA x)
  exact⟨r,_,by simp only[execOp,e];exact pH h1,pA _,h2⟩
 case h_13 p q x e=>
  refine r9 (by simp [e]) hd fun a w m=>?_
  obtain⟨r,d,w',h1,h2,h3,h4,h5⟩:=aEr m.H h (m.uA x)
  exact⟨r,w',d,s.H,by simp only[execOp,e];exact pH h1,h2,h3,h4,h5⟩
 case h_14 f first dO e=>
  refine jC (by simp [e]) hd fun a w m=>?_
  have h1:=m.P4 first
  split at h
  ·rename_i h0
   rw[h0] at h1
   simp only[aW] at h1
   have hf:first.map a.eval= #[]:=kY (by simpa using h1)
   refine⟨.func (.func f) #[] (dO.map a.eval),_,by simp [execOp,e,Instr.makeFunc,hf],?_,h⟩
   simp only[D.is]
   exact⟨(dO.map a.eval).toList,rfl,m.P4 dO⟩
  ·rename_i d ds h0
   rw[h0] at h1
   refine⟨.func (.func f) (first.map a.eval) (dO.map a.eval),_,by simp [execOp,e,Instr.makeFunc],?_,h⟩
   simp only[D.is]
   exact⟨(first.map a.eval).toList,(dO.map a.eval).toList,rfl,h1,m.P4 dO⟩
 case h_15 t n c e=>
  refine r9 (by simp [e]) hd fun a w m=>?_
  obtain⟨r,d,w',H',h1,h2,h3,h4,h5⟩:=aEx m.H h (m.uA n) (m.uA c)
  exact⟨r,w',d,H',by simp only[execOp,e];exact pH h1,h2,h3,h4,h5⟩
 case h_16 t x lo hi mx e=>
  refine jC (by simp [e]) hd fun a w m=>?_
  obtain⟨r,d,h1,h2,h3⟩:=aFA h (m.uA x) (m.aHc lo) (m.aHc hi) (m.aHc mx)
  exact⟨r,d,by simp only[execOp,e];exact pH h1,h2,h3⟩
 case h_17 t x f e=>
  refine jC (by simp [e]) hd fun a w m=>?_
  obtain⟨r,d,h1,h2,h3⟩:=aEt h (m.uA x)
  exact⟨r,d,by simp only[execOp,e];exact pH h1,h2,h3⟩
 case h_18 t x f e=>
  refine jC (by simp [e]) hd fun a w m=>?_
  obtain⟨r,d,h1,h2,h3⟩:=UW h (m.uA x)
  exact⟨r,d,by simp only[execOp,e];exact pH h1,h2,h3⟩
 case h_19 t x i e=>
  refine jC (by simp [e]) hd fun a w m=>?_
  obtain⟨r,d,h1,h2,h3⟩:=aEu h (m.uA x) (m.uA i)
  exact⟨r,d,by simp only[execOp,e];exact pH h1,h2,h3⟩
 case h_20 t x i e=>
  refine jC (by simp [e]) hd fun a w m=>?_
  obtain⟨r,d,h1,h2,h3⟩:=aEv h (m.uA x) (m.uA i)
  exact⟨r,d,by simp only[execOp,e];exact pH h1,h2,h3⟩
 case h_21 x i e=>
  refine jC (by simp [e]) hd fun a w m=>?_
  obtain⟨r,d,h1,h2,h3⟩:=aEs (P:=cx.P) h (m.uA x)
  exact⟨r,d,by simp only[execOp,e];exact pH h1,h2,h3⟩
 case h_22 c e=>
  unfold TL at h
  split at h
  ·rename_i f QM
   split at h
   ·rename_i g dO hg
    intro a w m
    refine⟨kI,?_⟩
    rw[ER (by simp [e])]
    have hf:=m.uA f
    rw[hg] at hf
    simp only[D.is] at hf
    obtain⟨vs,hf,QO⟩:=hf
    have uW:(execOp a.eval o).run cx.P w=.ok (.enter g (c.args.map a.eval++⟨vs⟩)) w:=by
     simp only[execOp,e,resolve,QM,hf,Deferred.ofValue,Sem.run_bind,Sem.run_pure,Result.andThen,invoke]
     rw[Array.empty_append]
     exact h.1 _ _
    rw[uW,Oper.uponIn_enter]
    refine⟨fun hd0=>(by cases hd0),?_⟩
    have AV:=oM (m.P4 c.args) QO
    have hc:=h.2 w _ AV m.H m.gok
    have dK:=BH (ro:=cx.ro) (n:=9 - 1) hc
    rw[show(c.args.map a.eval++(⟨vs⟩:Array Value))=((c.args.map a.eval).toList++vs).toArray from kY (by simp)]
    refine dK.mono fun e' w' ⟨v,d,H',he,h1,h2,h3,h4⟩=>?_
    subst he
    exact⟨_,(m.go h3 h2).put (hU hd) h1,h4⟩
   ·rename_i g first dO hg
    intro a w m
    refine⟨kI,?_⟩
    rw[ER (by simp [e])]
    have hf:=m.uA f
    rw[hg] at hf
    simp only[D.is] at hf
    obtain⟨us,vs,hf,aXR,QO⟩:=hf
    have uW:(execOp a.eval o).run cx.P w=.ok (.enter g ((⟨us⟩:Array Value)++c.args.map a.eval++⟨vs⟩)) w:=by
     simp only[execOp,e,resolve,QM,hf,Deferred.ofValue,Sem.run_bind,Sem.run_pure,Result.andThen,invoke]
     exact h.1 _ _
    rw[uW,Oper.uponIn_enter]
    refine⟨fun hd0=>(by cases hd0),?_⟩
    have AV:=oM aXR (oM (m.P4 c.args) QO)
    have hc:=h.2 w _ AV m.H m.gok
    have dK:=BH (ro:=cx.ro) (n:=9 - 1) hc
    rw[show((⟨us⟩:Array Value)++c.args.map a.eval++(⟨vs⟩:Array Value))=(us++((c.args.map a.eval).toList++vs)).toArray from kY (by simp)]
    refine dK.mono fun e' w' ⟨v,d,H',he,h1,h2,h3,h4⟩=>?_
    subst he
    exact⟨_,(m.go h3 h2).put (hU hd) h1,h4⟩
   ·exact h
  ·rename_i b QM
   refine r9 (by simp [e]) hd fun a w m=>?_
   obtain⟨r,d,w',H',h1,h2,h3,h4,h5⟩:=aEm (cs:=c.args.map fun| .const _=>true|_=>false) (ty:=o.type) m.H h (m.P4 c.args)
   refine⟨r,w',d,H',?_,h2,h3,h4,h5⟩
   simp only[execOp,e,resolve,QM,Sem.run_bind,Sem.run_pure,Result.andThen,invoke]
   exact h1
  ·exact h
 case h_23 t e=>
  refine r9 (by simp [e]) hd fun a w m=>?_
  obtain⟨r,d,w',H',h1,h2,h3,h4,h5⟩:=aEy (P:=cx.P) (t:=t) m.H h
  exact⟨r,w',d,H',by simp only[execOp,e];exact pH h1,h2,h3,h4,h5⟩
 case h_24 t x i ok e=>
  refine jC (by simp [e]) hd fun a w m=>?_
  obtain⟨r,d,h1,h2,h3⟩:=aEw m.H h (m.uA x) (m.uA i)
  exact⟨r,d,by simp only[execOp,e];exact pH h1,h2,h3⟩
 case h_25 t x i y e=>
  refine MG (by simp [e]) hd fun a w m=>?_
  obtain⟨w',H',h1,h2,h3,h4⟩:=XA m.H h (m.uA x) (m.uA i) (m.uA y)
  exact⟨w',H',by simp only[execOp,e,Sem.run_bind,h1,Result.andThen,Sem.run_pure],h2,h3,h4⟩
 case h_26 t x i y e=>
  refine MG (by simp [e]) hd fun a w m=>?_
  obtain⟨w',H',h1,h2,h3,h4⟩:=XA m.H h (m.uA x) (m.uA i) (m.uA y)
  exact⟨w',H',by simp only[execOp,e,Sem.run_bind,h1,Result.andThen,Sem.run_pure],h2,h3,h4⟩
 case h_27=>exact h
def kA:Op->Bool
 | .call ⟨.value _,_,_⟩=>true
 |_=>false
def nF (cx:Cx) (aV:Array Oper) (Q:Exit->St->Prop):List Oper->St->Prop
 |[],s=>Q .normal s
 |o::dD,s=>(match o.guard with
  |none=>dM cx o s fun s'=>if kA o.op then WL cx aV dD Q s' else nF cx aV Q dD s'
  |some (j,eC)=>(match mF aV j with
   |some t=>(match s.fr t with
    | .val (.bool b)=>vU (b==eC) (dM cx o (s.put (some t) (.val (.bool eC))) fun s'=>if kA o.op then WL cx aV dD Q s' else nF cx aV Q dD s') (nF cx aV Q dD ((s.put (some t) (.val (.bool !eC))).put o.dst (.val undef)))
    | .val (.tuple ⟨[]⟩)=>nF cx aV Q dD (s.put o.dst (.val undef))
    |_=>False)
   |none=>False))
def eP (n:Nat) (aV:List Oper):Bool:=aV.all fun o=>match o.dst with
 |some t=>decide (t<n)
 |none=>true
theorem OL {s:St} {t:Nat} {d:D} (h:s.fr t=d):s.put (some t) d=s:=by
 cases s
 simp only[St.put] at h ⊢
 congr 1
 funext x
 by_cases e:x=t
 ·rw[aH e,e,h]
 ·rw[aD e]
theorem FX {cx:Cx} {aV:List Oper} {Q:Exit->St->Prop} (eX:eP cx.n aV=true):∀{l:List Oper} {s:St},eP cx.n l=true->nF cx aV.toArray Q l s->WL cx aV.toArray l Q s
 |[],s,_,h=>MF h
 |o::dD,s,hl,h=>by
  simp only[eP,l8,eF] at hl
  have hd:BS cx.n o.dst:=by
   have:=hl.1
   unfold BS
   cases ho:o.dst with
   |none=>trivial
   |some t=>rw[ho] at this;simpa using this
  have ih:∀s',nF cx aV.toArray Q dD s'->WL cx aV.toArray dD Q s':=fun s' h'=>FX eX hl.2 h'
  have ih2:∀s',(if kA o.op then WL cx aV.toArray dD Q s' else nF cx aV.toArray Q dD s')->WL cx aV.toArray dD Q s':=fun s' h'=>by
   split at h'
   ·exact h'
   ·exact ih s' h'
  simp only[nF] at h
  split at h
  ·rename_i hg
   exact tF hg (yM (nO hd h) ih2)
  ·rename_i j eC hg
   split at h
   ·rename_i t ht
    have htn:t<cx.n:=by
     unfold mF at ht
     cases hj:aV.toArray[j]? with
     |none=>rw[hj] at ht;cases ht
     |some o'=>
      rw[hj] at ht
      have:=(eD.1 eX) o' (by have:=zP hj;simpa using this)
      simp at ht
      rw[ht] at this
      simpa using this
    split at h
    ·rename_i b hb
     exact xJ hg ht htn (hU hd) (.inl ⟨b,hb,fun e=>by
       have h2:=OQ h (by rw[e];cases eC <;> rfl)
       rw[OL (by rw[hb,e])] at h2
       exact yM (nO hd h2) ih2,fun e=>by
       have h2:=OP h (by rw[e];cases eC <;> rfl)
       rw[OL (by rw[hb,e])] at h2
       exact ih _ h2⟩)
    ·rename_i hb
     exact xJ hg ht htn (hU hd) (.inr ⟨hb,ih _ h⟩)
    ·exact h.elim
   ·exact h.elim
end Go.Proofs.YtelbfbioomcmeaaGreatDoor

