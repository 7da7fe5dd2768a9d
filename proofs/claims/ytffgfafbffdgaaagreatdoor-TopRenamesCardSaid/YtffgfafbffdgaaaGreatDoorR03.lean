/- Lemmas and contracts of functions, several texts in one. -/
import Derived.Test.YtffgfafbffdgaaaGreatDoorR02
import Derived.Maps.Keyed
import Derived.RangeFuncRecord
set_option maxRecDepth 100000
set_option maxHeartbeats 4000000
set_option linter.all false
namespace Go.Proofs.YtffgfafbffdgaaaGreatDoor
open Go.RowKit
variable {w:World}{H:aA}{P:Program}{t xt e:TypeId}
def TD.gX:TD->Bool
 | .int _=>false
 |_=>true
def gP (H:aA) (sz:Nat) (x:D) (K:List (List D)->Prop):Prop:=
 match x with
 | .val (.string s)=>sz=1/\K (s.data.toList.map bD)
 |x=>gy H sz x K
theorem oK {S:Nat->Prop}:∀(l:List UInt8),aW w S (l.map bD).flatten (l.map λb=>.int .u8 (b.toNat:Int))
 |[]=>by simp [aW]
 |c::l=>by
  simp only[cC,tM,bD,List.singleton_append,aW,D.is];exact⟨_,_,rfl,rfl,rfl,oK l⟩
theorem Ho {P:Program}(n:eF w H){sz:Nat}{x:D}{v:Value}{K:List (List D)->Prop}(h:gP H sz x K)(hx:D.is w H.others x v):
  ∃els us,K els/\(∀e∈els,e.length=sz)/\aW w H.others els.flatten us/\us.length=els.length * sz/\(∀W,(Builtin.lenOf v).run P W=.ok els.length W)/\∀W:World,W.heap=w.heap->(Builtin.firstCells sz els.length v).run P W=.ok ⟨us⟩ W:=by
 unfold gP at h;split at h
 ·rename_i s
  obtain⟨rfl,h⟩:=h;have e:=cQ hx;subst e;have k:s.size=s.data.toList.length:=kW.symm;refine⟨_,s.data.toList.map λb=>.int .u8 (b.toNat:Int),h,λe q=>?_,oK _,by rw[aS,aS,jZ],λW=>?_,λW _=>?_⟩
  ·obtain⟨c,_,rfl⟩:=cD.1 q;rfl
  ·rw[aS,<-k];rfl
  ·have u:(List.map bD s.data.toList).length=s.size:=by rw[aS];exact k.symm
   rw[u];simp only[Builtin.firstCells,Sem.run_pure];congr 1;apply gm;simp only[Array.toList_map];rw[show(s.extract 0 s.size)=s from ByteArray.ext (by rw[zE];exact Array.extract_size)]
 ·obtain⟨els,A,c,g,rfl,y,d⟩:=pz n h hx
  rcases d with rfl|⟨b,o,rfl,z,i⟩
  ·refine⟨[],[],g,by simp,by simp [aW],by simp,λW=>rfl,λW _=>?_⟩
   cases A with
   |none=>rfl
   |some a=>simp only[Builtin.firstCells,dX,rL];rfl
  ·obtain⟨us,l,f,m⟩:=mo i
   refine⟨els,us,g,lR i,l,f,λW=>rfl,λW p=>?_⟩;simp only[Builtin.firstCells];rw[<-f];have:=run_loadCells_list (P:=P) W ⟨b,o,none⟩ us (λj v r=>by
    rw[Addr.add_lit,<-m j v r];simp only[World.cell?,p])
   rw[this]
theorem Ao {w:World}{ty:TypeId}{d:TypeDesc}{E:Ti}(ht:P.underlying t=some (.slice e))(h:P.underlying xt=some d)(f:(iI d).gX=true)
  (hE:cG P e=some E) (a:Addr) (n c m:Nat) (x:Value) (us:List Value) (cd:∀W,(Builtin.lenOf x).run P W=.ok m W) (b:∀W:World,W.heap=w.heap->(Builtin.firstCells E.size m x).run P W=.ok ⟨us⟩ W)
  (j:n+m<=c) (i:World) (g:(storeCells (a.add (n * E.size)) us).run P w=.ok () i):(Builtin.append_ #[t,xt] ty #[.slice (some a) n c,x]).run P w=.ok (.slice (some a) (n+m) c) i:=by
 unfold Builtin.append_;cases d <;> first
  |(cases f;done)
  |(simp only[rB,lk,tF,Sem.run_bind,bH ht,bH h,Result.andThen,ek hE,ia,dY,cd w,Sem.run_pure,jW,dN,pS,aD j,b w rfl,g])
theorem lU {w:World}{ty:TypeId}{o:TypeDesc}{E:Ti}{K:List Value}(ht : P.underlying t = some (.slice e))(j : P.underlying xt = some o)(h : (iI o).gX = true)
    (hE : cG P e = some E) (hz : E.zero = some K) (A : Option Addr) (n c m : Nat) (x : Value) (us xz : List Value) (cd : ∀ W, (Builtin.lenOf x).run P W = .ok m W) (f : ∀ W : World, W.heap = w.heap -> (Builtin.firstCells E.size m x).run P W = .ok ⟨us⟩ W)
    (hold : ∀ W : World, W.heap = w.heap -> (Builtin.firstCells E.size n (.slice A n c)).run P W = .ok ⟨xz⟩ W) (u : E.bytes ≠ 0) (hb : (n + m) * E.bytes <= 140737488355328) :
    (n + m <= c -> ∀ I, (match A with | some a => storeCells (a.add (n * E.size)) us | none => pure () : Sem Unit).run P w = .ok () I -> (Builtin.append_ #[t, xt] ty #[.slice A n c, x]).run P w = .ok (.slice A (n + m) c) I) /\
    (c < n + m -> ∃ cap d, n + m <= cap /\ (Builtin.append_ #[t, xt] ty #[.slice A n c, x]).run P w = .ok (.slice (some ⟨w.heap.size, 0, none⟩) (n + m) cap) (w.drew.alloc (Obj.cells ⟨xz ++ us ++ d⟩ e)) /\ d.length = (cap - (n + m)) * K.length) := by
  obtain ⟨i, V, X, J, Z, N⟩ := qG hE w;have q : ∀ W, (typeInfo e).run P W = .ok i W := λW => by
    obtain ⟨i', R, _, _, _, l⟩ := qG hE W;rw [N] at l;injection l with l
    subst l;exact R
  constructor
  · intro M I b
    unfold Builtin.append_
    cases o <;> first
      | (cases h; done)
      | (simp only [rB, lk, tF, Sem.run_bind, bH ht, bH j, Result.andThen, ek hE, ia, dY, cd w, Sem.run_pure, jW, dN, pS, aD M, f w rfl]
         cases A with
         | none =>
           simp only [Sem.run_pure] at b ⊢
           injection b with _ b
           subst b
           rfl
         | some a =>
           simp only at b ⊢
           simp only [Sem.run_bind, b, Result.andThen, Sem.run_pure])
  · intro v
    have y : ¬ (n + m <= c) := by omega
    have B : ¬ (((n + m : Nat) : Int) > IntKind.i64.max /\ i.bytes = 0) := by
      rintro ⟨h1, S⟩;exact u (J.trans S)
    have L := growslice_fits v hb
    have D : ¬ (Builtin.nextslicecap (n + m) c * i.bytes > 2 ^ 48) := by rw [<- J]; omega
    obtain ⟨cap, g⟩ : ∃ cap, cap = (Question.appendCap (n + m) c e).cut (w.tape w.drawn (.appendCap (n + m) c e)) := ⟨_, rfl⟩
    have T : n + m <= cap := by rw [g]; simp [Question.cut]
    have p : (choose (.appendCap (n + m) c e)).run P w = .ok cap w.drew := by
      rw [g];simp only [choose, Sem.run, Question.forced];rfl
    have s : ∀ k W, (askRoom k).run P W = .ok () W := λk W => by
      unfold askRoom;split <;> rfl
    obtain ⟨z, F, G⟩ := sS hE hz w.drew
    refine ⟨cap, (Builtin.zeroCells z.cells (cap - (n + m))).toList, T, ?_, by simp [Builtin.zeroCells, <- G]⟩
    have r : (⟨xz⟩ : Array Value) ++ ⟨us⟩ ++ Builtin.zeroCells z.cells (cap - (n + m)) = ⟨xz ++ us ++ (Builtin.zeroCells z.cells (cap - (n + m))).toList⟩ := gm (by simp)
    unfold Builtin.append_
    cases o <;> first
      | (cases h; done)
      | (simp only [rB, lk, tF, Sem.run_bind, bH ht, bH j, Result.andThen, ek hE, ia, dY, cd w, Sem.run_pure, jW, dN, pS, aC y, q, aC B, aC D, p, s, hold w.drew rfl, f w.drew rfl, F, newRow, newObj, Sem.run]
         rw [r]
         rfl)
def Gz (P:Program) (H:aA) (t xt:TypeId) (s x:D) (K:D->aA->Prop):Prop:=
 match cG P t,cG P xt with
 |some ⟨.slice e,_,_,_⟩,some X=>X.d.gX=true/\(match cG P e with
  |some ⟨_,g,j,some q⟩=>q.length=g/\j≠0/\gP H g x λa=>(match s with
   | .val (.slice none 0 0)=>a.length * j<=140737488355328/\(a=[]->K (.val (.slice none 0 0)) H)/\(a≠[]->∀b,H b=none->K (.os b 0 g 0 a.length) (H.aU b (.row e 0 g a)))
   | .Ep=>a.length * j<=140737488355328/\(a=[]->K .Ep H)/\(a≠[]->∀b,H b=none->K (.os b 0 g 0 a.length) (H.aU b (.row e 0 g a)))
   | .os b o m k n=>m=g/\(n+a.length) * j<=140737488355328/\(match H b with
    |some (.row p i h f)=>p=e/\i=o/\h=g/\k+n<=f.length/\∀l i,(H.del b) l=none->K (.os l i g 0 (n+a.length)) ((H.del b).aU l (.row e i g ((f.drop k).take n++a)))
    |_=>False)
   | .val (.slice (some ⟨b,o,none⟩) n c)=>n+a.length<=c/\(match H b with
    |some (.row p i h f)=>i=o/\h=g/\c<=f.length/\K (.val (.slice (some ⟨b,o,none⟩) (n+a.length) c)) (H.aU b (.row p o g (f.take n++a++f.drop (n+a.length))))
    |_=>False)
   |_=>False)
  |_=>False)
 |_,_=>False
theorem aA.Is (H:aA)(b:Nat)(x:cY):(H.del b).aU b x=H.aU b x:=funext λc=>by
 by_cases h:c=b
 ·subst h;rw[aK,aK]
 ·rw[aJ h,aJ h,bL h]
theorem aA.WH (H:aA)(b:Nat):(H.del b).le H:=λc x h=>by
 by_cases e:c=b
 ·subst e;rw[lf] at h;cases h
 ·rw[bL e] at h;exact h
abbrev pR:=@aA.WH
theorem nV (H:aA)(w:World):Ev H w H w.drew:=⟨rfl,rfl,rfl,bh _,λ_ _ h=>⟨rfl,h⟩,λ_ _ _ a h=>⟨_,a,h,rfl⟩⟩
theorem eF.drew (h:eF w H):eF w.drew H:=λb x a=>(nV H w).jb rfl (h b x a)
theorem An (b:eF w H)(t:TypeId)(sz:Nat)(els:List (List D))(vs us:List Value)(hv:aW w H.others els.flatten vs)(ir:∀el∈els,el.length=sz)(cd:vs.length=els.length * sz):
  eF (w.alloc (Obj.cells ⟨vs++us⟩ t)) (H.aU w.heap.size (.row t 0 sz els)):=by
 refine b.alloc ⟨⟨vs++us⟩,(0,0),heap_alloc_new w _,JH _,by simp;omega,?_⟩;refine nf ir (bO (gN _ _ b).kept _ hv) λj v c=>?_;rw[cell_of_row _ _ _ _ _ _ (heap_alloc_new w _),kG];have a:=(gI.1 c).1;simp only[rB];rw[kT a];exact c
theorem TO {P:Program}(y:eF w H){S:Sem Value}{ty:TypeId}{sz n k b o' c zl:Nat}{A:Option Addr}{els d:List (List D)}{us:List Value}{K:D->aA->Prop}
  (i:H b=some (.row ty o' sz d)) (aM:k+n<=d.length) (a5:zl=sz)
  (h:∀b' o',(H.del b) b'=none->K (.os b' o' sz 0 (n+els.length)) ((H.del b).aU b' (.row ty o' sz ((d.drop k).take n++els))))
  (a9:n<=c) (J:c=0\/(A=some ⟨b,o'+k * sz,none⟩/\∃cs t fr,w.heap[b]?=some (Obj.cells cs t fr)/\o'+(k+c) * sz<=cs.size))
  (ir:∀e∈els,e.length=sz) (u:aW w H.others els.flatten us) (w9:us.length=els.length * sz)
  (a2:∀xz:List Value,(∀W:World,W.heap=w.heap->(Builtin.firstCells sz n (.slice A n c)).run P W=.ok ⟨xz⟩ W)->
   (n+els.length<=c->∀f,(match A with|some a=>storeCells (a.add (n * sz)) us|none=>pure ():Sem Unit).run P w=.ok () f->S.run P w=.ok (.slice A (n+els.length) c) f)/\
   (c<n+els.length->∃cap g,n+els.length<=cap/\S.run P w=.ok (.slice (some ⟨w.heap.size,0,none⟩) (n+els.length) cap) (w.drew.alloc (Obj.cells ⟨xz++us++g⟩ ty))/\g.length=(cap - (n+els.length)) * zl)):
  ∃r d' f H',S.run P w=.ok r f/\D.is f H'.others d' r/\eF f H'/\Ev H w H' f/\K d' H':=by
 obtain⟨cs,fr,I,g2,g3,g4⟩:=y _ _ i;have o:=ko (mn g4 k) n;have s:((d.drop k).take n).length=n:=by rw[bX,gd];omega
 obtain⟨xz,o1,o2,o3⟩:=mo o;rw[s] at o2;have hold:∀W:World,W.heap=w.heap->(Builtin.firstCells sz n (.slice A n c)).run P W=.ok ⟨xz⟩ W:=λW hW=>by
  rcases J with J|⟨rfl,_⟩
  ·obtain rfl:n=0:=by omega
   have:xz=[]:=cy (by simpa using o2);subst this;cases A <;> simp [Builtin.firstCells,loadCells,loadCellsFrom]
  ·simp only[Builtin.firstCells]
   rw[<-o2];exact run_loadCells_list (P:=P) W ⟨b,o'+k * sz,none⟩ xz (λj v z=>by
    rw[Addr.add_lit,<-o3 j v z];simp only[World.cell?,hW])
 obtain⟨r1,r2⟩:=a2 xz hold;by_cases m:n+els.length<=c
 ·
  have l:=h b (o'+k * sz) (lf H b);rw[aA.Is] at l;have a6:k * sz+n * sz<=d.length * sz:=by rw[<-dc];exact jl _ aM
  rcases J with J|⟨rfl,a7,t1,a8,R,f2⟩
  ·obtain rfl:n=0:=by omega
   have X:els=[]:=cy (by omega);subst X;have a1:us=[]:=cy (by simpa using w9);subst a1;have p:Ev H w (H.aU b (.row ty (o'+k * sz) sz ((d.drop k).take 0++[]))) w:=jI (by rw[i];simp) rfl rfl rfl rfl (λ_ _=>rfl) (λE t0 G x=>⟨E,G,x,rfl⟩);refine⟨_,_,w,_,r1 m w (by cases A <;> rfl),?_,hQ y p (λ_ _=>rfl) ⟨cs,fr,I,g2,?_,?_⟩,p,l⟩
   ·simp only[D.is]
    exact⟨A,c,rfl,by omega,.inl J⟩
   ·simp;omega
   ·simp only[gK,bz,cK]
  ·rw[I] at R
   injection R with R
   injection R with x1 x2 x3
   subst x1 x2 x3;have a3:o'+k * sz+n * sz+0+us.length<=cs.size:=by
    rw[w9];have:(k+(n+els.length)) * sz<=(k+c) * sz:=jl _ (by omega);rw[dc,dc] at this;omega
   obtain⟨f,Z,e1,e2,e3,e4,ho,N,T,V,q3,q4⟩:=fU (P:=P) b ty fr us (o'+k * sz+n * sz) 0 w cs I g2 a3 (lD u);have p:Ev H w (H.aU b (.row ty (o'+k * sz) sz ((d.drop k).take n++els))) f:=jI (by rw[i];simp) e1 e2 e3 e4 ho (λE t0 G x=>by
    rw[I] at x;injection x with x
    injection x with x1 x2 x3
    subst x1 x2 x3;exact⟨N,_,T,V⟩)
   refine⟨_,_,f,_,r1 m f (by simp only[Addr.add_lit];exact Z),?_,hQ y p ho ⟨N,fr,T,by rw[V];exact g2,?_,?_⟩,p,l⟩
   ·simp only[D.is]
    refine⟨_,c,rfl,m,.inr ⟨by simp,N,ty,fr,T,?_⟩⟩;rw[V,kG];have:(k+c) * sz=k * sz+c * sz:=dc _ _ _;omega
   ·rw[V,aV,s,dc,<-w9]
    omega
   ·have B:∀j,f.cell? ⟨b,j,none⟩=N[j]?:=λj=>cell_of_row f b j N ty fr T
    have a0:∀j,w.cell? ⟨b,j,none⟩=cs[j]?:=λj=>cell_of_row w b j cs ty fr I;refine nf (vs:=xz++us) ?_ ?_ ?_
    ·intro F q
     rcases bB.1 q with h1|h1
     ·exact lR o F h1
     ·exact ir F h1
    ·rw[zH]
     exact cg (bO p.kept _ o1) (bO p.kept _ u)
    ·intro j v z
     rcases fv j xz.length with a4|wY
     ·rw[kT a4] at z
      rw[B,q4 _ (by omega),<-a0];exact o3 j v z
     ·rw[mO wY] at z
      rw[B,show o'+k * sz+j=o'+k * sz+n * sz+0+(j - xz.length) by omega];exact q3 _ v z
 ·
  obtain⟨cap,g,h3,h4,h5⟩:=r2 (by omega);have L:eF w.drew (H.del b):=y.drew.less (pR H b);have hn:(H.del b) w.heap.size=none:=by
   have:=ff y;rw[bL]
   ·exact this
   ·have:=y.lt i
    omega
  have M:zT H.others (H.del b).others w w.drew:=(nV H w).less (pR H b) |>.kept;refine⟨_,_,_,_,h4,?_,?_,((nV H w).less (pR H b)).trans (gN _ _ L),h w.heap.size 0 hn⟩
  ·simp only[D.is]
   refine⟨_,_,rfl,h3,.inr ⟨by simp,_,ty,(0,0),heap_alloc_new w.drew _,?_⟩⟩;simp only[zN,aV,h5,w9,a5,o2];rw[<-dc,<-dc];simp only[kG];exact jl _ (by omega)
  ·have:=An (w:=w.drew) L ty sz ((d.drop k).take n++els) (xz++us) g (by rw[zH];exact cg (bO M _ o1) (bO M _ u)) (by
     intro F q;rcases bB.1 q with h1|h1
     ·exact lR o F h1
     ·exact ir F h1) (by rw[aV,aV,s,o2,w9,dc])
   simpa using this
theorem T7 (F:eF w H){ty:TypeId}{s x:D}{v u:Value}{K:D->aA->Prop}(h:Gz P H t xt s x K)(hs:D.is w H.others s v)(hx:D.is w H.others x u):
  ∃r d' m H',(Builtin.append_ #[t,xt] ty #[v,u]).run P w=.ok r m/\D.is m H'.others d' r/\eF m H'/\Ev H w H' m/\K d' H':=by
 unfold Gz at h;split at h
 ·rename_i e _ _ _ X hT hX
  obtain⟨B,h⟩:=h;split at h
  ·rename_i dE sz rq zs hE
   obtain⟨a4,J,h⟩:=h;obtain⟨d,i,R,a2,a3⟩:=cZ hT;injection a3 with a3
   cases d <;> simp [iI] at a3
   subst a3;obtain⟨dx,ix,Z,c2,rfl⟩:=cZ hX;obtain⟨a,E,h,ir,L,w9,cd,y⟩:=Ho (P:=P) F h hx;have V:∀(A:Option Addr),a.length * rq<=140737488355328->a≠[]->K (.os w.heap.size 0 sz 0 a.length) (H.aU w.heap.size (.row e 0 sz a))->
     ∃r d' m H',(Builtin.append_ #[t,xt] ty #[.slice A 0 0,u]).run P w=.ok r m/\D.is m H'.others d' r/\eF m H'/\Ev H w H' m/\K d' H':=by
    intro A hb g hk;obtain⟨_,h2⟩:=lU (P:=P) (w:=w) (ty:=ty) R Z B hE rfl A 0 0 a.length u E [] cd y (λW _=>by cases A <;> simp [Builtin.firstCells,loadCells,loadCellsFrom]) J (by simpa using hb);have ak:0<a.length:=by
     rcases a with _|⟨_,_⟩
     ·exact absurd rfl g
     ·simp
    obtain⟨al,a5,N,h4,h5⟩:=h2 (by omega);rw[kG] at h4 N;refine⟨_,_,_,_,h4,?_,?_,(nV H w).trans (gN _ _ F.drew),hk⟩
    ·simp only[D.is]
     refine⟨_,_,rfl,N,.inr ⟨by simp,_,e,(0,0),heap_alloc_new w.drew _,?_⟩⟩;simp only[zN,aV,dX,kG,h5,w9,a4];rw[<-dc];exact jl _ (by omega)
    ·have:=An (w:=w.drew) F.drew e sz a E a5 (bO (nV H w).kept _ L) ir w9
     simpa using this
   split at h
   ·obtain⟨hb,h1,h2⟩:=h
    have e1:=cQ hs;subst e1;by_cases g:a=[]
    ·subst g
     obtain⟨N,_⟩:=lU (P:=P) (w:=w) (ty:=ty) R Z B hE rfl none 0 0 0 u E [] cd y (λW _=>rfl) J (by simp);exact⟨_,_,w,H,N (by omega) w rfl,lN _,F,dr _ _,h1 rfl⟩
    ·exact V none hb g (h2 g _ (ff F))
   ·obtain⟨hb,h1,h2⟩:=h
    simp only[D.is] at hs;obtain⟨A,rfl⟩:=hs;by_cases g:a=[]
    ·subst g
     have a9:E=[]:=cy (by simpa using w9);subst a9;obtain⟨N,_⟩:=lU (P:=P) (w:=w) (ty:=ty) R Z B hE rfl A 0 0 0 u [] [] cd y (λW _=>by cases A <;> simp [Builtin.firstCells,loadCells,loadCellsFrom]) J (by simp);exact⟨_,_,w,H,N (by omega) w (by cases A <;> rfl),by simp only[D.is];exact⟨A,rfl⟩,F,dr _ _,h1 rfl⟩
    ·exact V A hb g (h2 g _ (ff F))
   ·rename_i b o b0 k n _
    obtain⟨rfl,hb,h⟩:=h;split at h
    ·rename_i p G f l I
     obtain⟨rfl,rfl,rfl,aM,h⟩:=h;simp only[D.is] at hs;obtain⟨A,c,rfl,ag,hA⟩:=hs;exact TO F (ty:=p) I aM a4 h ag hA ir L w9 λxz hold=>lU (P:=P) (w:=w) (ty:=ty) R Z B hE rfl A n c a.length u E xz cd y hold J hb
    ·exact h.elim
   ·rename_i b o n c _
    obtain⟨a8,h⟩:=h;have e1:=cQ hs;subst e1;split at h
    ·rename_i p G f l I
     obtain⟨rfl,rfl,ar,hk⟩:=h;obtain⟨cs,fr,g1,g2,g3,g4⟩:=F _ _ I;obtain⟨z,o1,o2,o3⟩:=mo (ko g4 n);obtain⟨ab,p1,p2,p3⟩:=mo (mn g4 (n+a.length));have a0:(l.take n).length=n:=by rw[bX];omega
     rw[a0] at o2;rw[gd] at p2;have T:∀q,q<=l.length->G+q * f<=cs.size:=λq hq=>by
      have:q * f<=l.length * f:=jl _ hq;omega
     have ad:G+n * f+0+E.length<=cs.size:=by
      have:=T (n+a.length) (by omega);rw[w9];rw[dc] at this;omega
     obtain⟨m,a6,e1,e2,e3,e4,ho,nN,q1,q2,q3,q4⟩:=fU (P:=P) b p fr E (G+n * f) 0 w cs g1 g2 ad (lD L);have fV:Ev H w (H.aU b (.row p G f (l.take n++a++l.drop (n+a.length)))) m:=jI (by rw[I];simp) e1 e2 e3 e4 ho (λam t0 ap h0=>by
      rw[g1] at h0;injection h0 with h0
      injection h0 with x1 x2 x3
      subst x1 x2 x3;exact⟨nN,_,q1,q2⟩)
     refine⟨_,_,m,_,Ao (ty:=ty) R Z B hE ⟨b,G,none⟩ n c a.length u E cd y a8 m (by simp only[Addr.add_lit];exact a6),lN _,hQ F fV ho ⟨nN,fr,q1,by rw[q2];exact g2,?_,?_⟩,fV,hk⟩
     ·rw[q2,aV,aV,a0,gd,show n+a.length+(l.length - (n+a.length))=l.length by omega]
      exact T _ (bh _)
     ·have a7:∀j,m.cell? ⟨b,j,none⟩=nN[j]?:=λj=>cell_of_row m b j nN p fr q1
      have S:∀j,w.cell? ⟨b,j,none⟩=cs[j]?:=λj=>cell_of_row w b j cs p fr g1;refine nf (vs:=z++E++ab) ?_ ?_ ?_
      ·intro el ac
       rcases bB.1 ac with h1|h1
       ·rcases bB.1 h1 with h1|h1
        ·exact lR (ko g4 n) el h1
        ·exact ir el h1
       ·exact lR (mn g4 _) el h1
      ·rw[zH,zH]
       exact cg (cg (bO fV.kept _ o1) (bO fV.kept _ L)) (bO fV.kept _ p1)
      ·intro j v M
       rw[a7];rcases fv j (z++E).length with ae|wY
       ·rw[kT ae] at M
        rcases fv j z.length with aa|aCh
        ·rw[kT aa] at M
         rw[q4 _ (by omega),<-S];exact o3 j v M
        ·rw[mO aCh] at M
         rw[show G+j=G+n * f+0+(j - z.length) by omega];exact q3 _ v M
       ·rw[mO wY] at M
        rw[aV] at wY M;have aw:(n+a.length) * f=n * f+a.length * f:=dc _ _ _;rw[q4 _ (by omega),<-S,show G+j=G+(n+a.length) * f+(j - (z.length+E.length)) by omega];exact p3 _ v M
    ·exact h.elim
   ·exact h.elim
  ·exact h.elim
 ·exact h.elim
end Go.Proofs.YtffgfafbffdgaaaGreatDoor
namespace Go.Proofs.YtffgfafbffdgaaaGreatDoor
open Go.Maps (Keyed)
open Go.RowKit
variable {m:List (Value×D)}{w:World}{d x ix:D}{k v z u:Value}{P:Program}{t:TypeId}{es:Array MapEntry}{j:Nat}{e:MapEntry}
noncomputable def iC:List (Value×D)->Value->Option D
 |[],_=>none
 |p::m,x=>open Classical in if p.1=x then some p.2 else iC m x
noncomputable def eJ:List (Value×D)->Value->D->List (Value×D)
 |[],x,d=>[(x,d)]
 |p::m,x,d=>open Classical in if p.1=x then (x,d)::m else p::eJ m x d
theorem fj (x:Value):iC [] x=none:=rfl
theorem jJ:∀(m:List (Value×D)) (x:Value) (d:D),iC (eJ m x d) x=some d
 |[],x,d=>by simp [eJ,iC]
 |p::m,x,d=>by
  simp only[eJ];split
  ·simp [iC]
  ·rename_i h
   simp only[iC,aC h];exact jJ m x d
theorem n9:∀(m:List (Value×D)) {x y:Value}(d:D),x≠y->iC (eJ m x d) y=iC m y
 |[],x,y,d,h=>by simp [eJ,iC,h]
 |p::m,x,y,d,h=>by
  simp only[eJ];split
  ·rename_i h2
   simp only[iC,aC h];rw[aC (by rw[h2];exact h)]
  ·simp only[iC]
   split
   ·rfl
   ·exact n9 m d h
theorem C0:∀(m:List (Value×D)) (x:Value) (d:D),(eJ m x d).map (·.1)=m.map (·.1)/\x∈m.map (·.1)\/(eJ m x d).map (·.1)=m.map (·.1)++[x]/\x∉m.map (·.1)
 |[],x,d=>.inr ⟨by simp [eJ],by simp⟩
 |p::m,x,d=>by
  simp only[eJ];split
  ·rename_i h
   exact .inl ⟨by simp [h],by simp [h]⟩
  ·rename_i h
   rcases C0 m x d with⟨h1,h2⟩|⟨h1,h2⟩
   ·exact .inl ⟨by simp only[cC,h1],dH _ h2⟩
   ·refine .inr ⟨by simp only[cC,h1,dJ],λh3=>?_⟩
    rcases bV.1 h3 with h3|h3
    ·exact h h3.symm
    ·exact h2 h3
theorem Hn (x:Value)(d:D)(h:(m.map (·.1)).Nodup):((eJ m x d).map (·.1)).Nodup:=by
 rcases C0 m x d with⟨f,_⟩|⟨f,l⟩
 ·rw[f];exact h
 ·rw[f,mW]
  refine⟨h,by simp,λa g b i c=>?_⟩;simp only[bM] at i;rw[i] at c;rw[c] at g;exact l g
def fE:List D->Option (List Value)
 |[]=>some []
 | .val v::ds=>(fE ds).map (v::·)
 |_=>none
def gV:D->Option Value
 | .val v=>some v
 | .agg cs=>(fE cs).map λvs=>.agg ⟨vs⟩
 |_=>none
theorem Bo {S:Nat->Prop}:∀(cs:List D) (vs us:List Value),fE cs=some vs->aW w S cs us->us=vs
 |[],vs,us,h1,h2=>by
  simp only[aW] at h2;simp only[fE,iJ] at h1;rw[<-h1,h2]
 |c::cs,vs,us,h1,h2=>by
  simp only[aW] at h2;obtain⟨u,a,rfl,_,h3,h4⟩:=h2;cases c with
  |val v=>
   simp only[fE,El] at h1
   obtain⟨b,f,rfl⟩:=h1
   simp only[D.is] at h3
   rw[h3,Bo cs b a f h4]
  |_=>simp [fE] at h1
theorem CU {S:Nat->Prop}(h:gV d=some k)(hd:D.is w S d v):v=k:=by
 cases d with
 |val u=>
  simp only[gV,iJ] at h
  simp only[D.is] at hd
  rw[hd,h]
 |agg cs=>
  simp only[gV,El] at h
  obtain⟨f,a,rfl⟩:=h
  simp only[D.is] at hd
  obtain⟨c,rfl,b⟩:=hd
  rw[Bo cs f c a b]
 |_=>simp [gV] at h
def ay (P:Program) (t:TypeId):Option Value:=(P.info? t).bind (·.zero)
theorem IJ (h:ay P t=some z)(w:World):(zeroValue t).run P w=.ok z w:=by
 unfold ay at h;obtain⟨i,a,b⟩:=Option.bind_eq_some_iff.1 h;unfold zeroValue typeInfo program;simp [Sem.run,a,b]
def SP (P:Program) (a:TypeId) (m:List (Value×D)) (x:Value):Prop:=Keyed P a/\(∃l,keyOf P a x=some l)/\∀p∈m,∃l,keyOf P a p.1=some l
def yk (P:Program) (H:aA) (t:TypeId) (x ix:D) (ok:Bool) (K:D->Prop):Prop:=
 match cG P t,x,gV ix with
 |some ⟨.map f c,_,_,_⟩,.val (.map (some b)),some a=>(match H b,ay P c with
  |some (.map m),some z=>SP P f m a/\(match iC m a with
   |some d=>K (if ok then .eO [d,.val (.bool true)] else d)
   |none=>K (if ok then .eO [.val z,.val (.bool false)] else .val z))
  |_,_=>False)
 |_,_,_=>False
def AX (P:Program) (H:aA) (t:TypeId) (x ix d:D) (K:aA->Prop):Prop:=
 match cG P t,x,gV ix with
 |some ⟨.map a _,_,_,_⟩,.val (.map (some b)),some kv=>(match H b with
  |some (.map m)=>SP P a m kv/\K (H.aU b (.map (eJ m kv d)))
  |_=>False)
 |_,_,_=>False
def Fp (H:aA) (K:D->aA->Prop):Prop:=∀b,H b=none->K (.val (.map (some b))) (H.aU b (.map []))
theorem Tp {P:Program}{H:aA}(b:eF w H){t:TypeId}{K:D->aA->Prop}(h:Fp H K):
  ∃r c a H',(Instr.makeMap t none).run P w=.ok r a/\D.is a H'.others c r/\eF a H'/\Ev H w H' a/\K c H':=
 ⟨_,_,w.alloc (.map #[] 0),_,rfl,by simp only[D.is],b.alloc (x:=.map []) ⟨#[],0,heap_alloc_new w _,rfl,by simp only[fw,aT],by simp,by simp [Stm]⟩,gN _ _ b,h _ (ff b)⟩
theorem Dq (h:es.toList.map (·.key)=m.map (·.1))(c:es.toList[j]?=some e):∃p,m[j]?=some p/\p.1=e.key:=by
 have a:=ai (·[j]?) h;simp only[bg,c,gJ] at a;cases b:m[j]? with
 |none=>rw[b] at a;cases a
 |some p=>rw[b] at a;simp at a;exact⟨p,rfl,a.symm⟩
theorem CZ:∀{m:List (Value×D)}{x:Value},(∀p∈m,p.1≠x)->iC m x=none
 |[],x,_=>rfl
 |p::m,x,h=>by
  simp only[iC,aC (h p jm)];exact CZ λq a=>h q (dH _ a)
theorem Jb:∀{m:List (Value×D)}{j:Nat}{p:Value×D},(m.map (·.1)).Nodup->m[j]?=some p->iC m p.1=some p.2
 |q::m,0,p,_,h=>by
  simp only[lk,iJ] at h;subst h;simp [iC]
 |q::m,j+1,p,hn,h=>by
  simp only[tF] at h;simp only[cC,pO] at hn;have a:q.1≠p.1:=λe=>hn.1 (by rw[e];exact cD.2 ⟨p,eh h,rfl⟩);simp only[iC,aC a];exact Jb hn.2 h
theorem Jc:∀{m:List (Value×D)}{j:Nat}{p:Value×D}{d:D},(m.map (·.1)).Nodup->m[j]?=some p->eJ m p.1 d=m.set j (p.1,d)
 |q::m,0,p,d,_,h=>by
  simp only[lk,iJ] at h;subst h;simp [eJ]
 |q::m,j+1,p,d,hn,h=>by
  simp only[tF] at h;simp only[cC,pO] at hn;have a:q.1≠p.1:=λe=>hn.1 (by rw[e];exact cD.2 ⟨p,eh h,rfl⟩);simp only[eJ,aC a,List.set_cons_succ];rw[Jc hn.2 h]
theorem Ft:∀{m:List (Value×D)}{x:Value}{d:D},(∀p∈m,p.1≠x)->eJ m x d=m++[(x,d)]
 |[],x,d,_=>rfl
 |p::m,x,d,h=>by
  simp only[eJ,aC (h p jm),dJ];rw[Ft λq a=>h q (dH _ a)]
theorem UU {S:Nat->Prop}(hv:aT w S (m.map (·.2)) (es.toList.map (·.val))){p:Value×D}(c:es.toList[j]?=some e)(hp:m[j]?=some p):D.is w S p.2 e.val:=by
 obtain⟨v,a,b⟩:=iO hv j p.2 (by rw[bg,hp] <;> rfl);rw[bg,c] at a;simp at a;rw[a];exact b
theorem Tn {H:aA}(hH:eF w H){ok:Bool}{K:D->Prop}(h:yk P H t x ix ok K)(hx:D.is w H.others x v)(hi:D.is w H.others ix u):
  ∃r d,(Instr.lookup t v u ok).run P w=.ok r w/\D.is w H.others d r/\K d:=by
 unfold yk at h;split at h
 ·rename_i kt et _ _ _ b kv hT L
  split at h
  ·rename_i m z hb hE
   obtain⟨⟨a,⟨lx,c⟩,E⟩,h⟩:=h;have ev:=cQ hx;subst ev;have T:=CU L hi;subst T;obtain⟨d,i,R,a2,y⟩:=cZ hT;injection y with y
   cases d <;> simp [iI] at y
   obtain⟨rfl,rfl⟩:=y;obtain⟨es,B,W,G,X,Z,a0⟩:=hH _ _ hb;have I:∀e∈es.toList,∃l,keyOf P kt e.key=some l:=λe q=>by
    obtain⟨j,J⟩:=pc q;obtain⟨p,n,f⟩:=Dq G J;rw[<-f];exact E p (eh n)
   have o:∀(N:Program),(getObj b).run N w=.ok (.map es B) w:=λN=>by simp [getObj,Sem.run,W]
   rcases a.find w c es.toList I with⟨F,A⟩|⟨j,e,F,A,V⟩
   ·have hn:iC m u=none:=CZ λp n=>by
     obtain⟨j,J⟩:=pc n;have g:=ai (·[j]?) G;simp only[bg,J,gJ] at g;cases q:es.toList[j]? with
     |none=>rw[q] at g;cases g
     |some e=>rw[q] at g;simp at g;rw[<-g];exact A e (eh q)
    rw[hn] at h
    simp only at h
    have M:=IJ hE w
    have s:D.is w H.others (.val z) z:=by simp only[D.is]
    refine⟨if ok=true then .tuple #[z,.bool false] else z,_,?_,?_,h⟩
    ·simp only[Instr.lookup,Sem.run_bind,bH R,Result.andThen,o,a.check w _ c,F,M,Sem.run_pure]
    ·cases ok
     ·exact s
     ·simp only[dN,D.is,aT]
      exact⟨_,rfl,_,_,rfl,s,_,_,rfl,rfl,rfl⟩
   ·obtain⟨p,n,f⟩:=Dq G A
    have hg:iC m u=some p.2:=by rw[<-V,<-f];exact Jb Z n
    rw[hg] at h;simp only at h;have S:=UU X A n;refine⟨if ok=true then .tuple #[e.val,.bool true] else e.val,_,?_,?_,h⟩
    ·simp only[Instr.lookup,Sem.run_bind,bH R,Result.andThen,o,a.check w _ c,F,Sem.run_pure]
    ·cases ok
     ·exact S
     ·simp only[dN,D.is,aT]
      exact⟨_,rfl,_,_,rfl,S,_,_,rfl,rfl,rfl⟩
  ·exact h.elim
 ·exact h.elim
theorem Fs (a:es.toList[j]?=some e):((es.modify j λx=>{key:=e.key,val:=v,born:=x.born}).toList.map (·.key))=es.toList.map (·.key)/\((es.modify j λx=>{key:=e.key,val:=v,born:=x.born}).toList.map (·.val))=(es.toList.map (·.val)).set j v:=by
 have hj:j<es.toList.length:=(gI.1 a).1;constructor
 ·apply np
  intro i;simp only[Array.toList_modify,bg,List.getElem?_modify];by_cases h:j=i
  ·subst h;simp [a]
  ·simp [h]
 ·apply np
  intro i;simp only[Array.toList_modify,bg,List.getElem?_modify,zO];by_cases h:j=i
  ·subst h
   have b:j<es.size:=by simpa using hj
   simp [a,b]
  ·simp [h]
theorem Fq (a:es.toList[j]?=some e):((es.modify j λx=>{key:=k,val:=v,born:=x.born}).toList.map (·.born))=es.toList.map (·.born):=by
 apply np;intro i;simp only[Array.toList_modify,bg,List.getElem?_modify];by_cases h:j=i
 ·subst h;simp [a]
 ·simp [h]
theorem vz {S:Nat->Prop}:∀{ds:List D}{vs:List Value}{d:D}{v:Value},aT w S ds vs->D.is w S d v->aT w S (ds++[d]) (vs++[v])
 |[],vs,d,v,h,hd=>by
  simp only[aT] at h;subst h;simp only[cz,aT];exact⟨_,_,rfl,hd,rfl⟩
 |d0::ds,vs,d,v,h,hd=>by
  simp only[aT] at h;obtain⟨u,us,rfl,h1,h2⟩:=h;simp only[dJ,aT];exact⟨_,_,rfl,h1,vz h2 hd⟩
theorem yL {S:Nat->Prop}:∀{ds:List D}{vs:List Value}{j:Nat}{d:D}{v:Value},aT w S ds vs->D.is w S d v->aT w S (ds.set j d) (vs.set j v)
 |[],vs,j,d,v,h,_=>by
  simp only[aT] at h;subst h;simp [aT]
 |d0::ds,vs,0,d,v,h,hd=>by
  simp only[aT] at h;obtain⟨u,us,rfl,_,h2⟩:=h;simp only[List.set_cons_zero,aT];exact⟨_,_,rfl,hd,h2⟩
 |d0::ds,vs,j+1,d,v,h,hd=>by
  simp only[aT] at h;obtain⟨u,us,rfl,a,h2⟩:=h;simp only[List.set_cons_succ,aT];exact⟨_,_,rfl,a,yL h2 hd⟩
theorem Jp {H:aA}(hH:eF w H){K:aA->Prop}(h:AX P H t x ix d K)(hx:D.is w H.others x v)(hi:D.is w H.others ix u)(hd:D.is w H.others d z):
  ∃E H',(Instr.mapUpdate t v u z).run P w=.ok () E/\eF E H'/\Ev H w H' E/\K H':=by
 unfold AX at h;split at h
 ·rename_i kt et _ _ _ b kv hT a7
  split at h
  ·rename_i m hb
   obtain⟨⟨s,⟨lx,y⟩,W⟩,h⟩:=h;have ev:=cQ hx;subst ev;have eu:=CU a7 hi;subst eu;obtain⟨d1,i,a1,a2,R⟩:=cZ hT;injection R with R
   cases d1 <;> simp [iI] at R
   obtain⟨rfl,rfl⟩:=R;obtain⟨es,n,V,L,h3,h4,r⟩:=hH _ _ hb;have a4:∀e∈es.toList,∃l,keyOf P kt e.key=some l:=λe M=>by
    obtain⟨j,hj⟩:=pc M;obtain⟨p,A,B⟩:=Dq L hj;rw[<-B];exact W p (eh A)
   have G:∀(P':Program),(getObj b).run P' w=.ok (.map es n) w:=λP'=>by simp [getObj,Sem.run,V]
   have I:∀(o:Obj),(setObj b o).run P w=.ok () (w.putObj b o):=λo=>by simp [setObj,Sem.run,V,World.putObj]
   have fin:∀(f:Array MapEntry) (q:Nat),f.toList.map (·.key)=(eJ m u d).map (·.1)->(∀{E:World}{S:Nat->Prop},aT E S (m.map (·.2)) (es.toList.map (·.val))->D.is E S d z->aT E S ((eJ m u d).map (·.2)) (f.toList.map (·.val)))->Stm (f.toList.map (·.born)) q->
     eF (w.putObj b (.map f q)) (H.aU b (.map (eJ m u d)))/\Ev H w (H.aU b (.map (eJ m u d))) (w.putObj b (.map f q)):=by
    intro f q g1 g2 g3;have J:∀c,c≠b->(w.putObj b (.map f q)).heap[c]?=w.heap[c]?:=λc hc=>by simp [World.putObj,Array.getElem?_setIfInBounds_ne (Ne.symm hc)]
    have a0:(w.putObj b (.map f q)).heap[b]?=some (.map f q):=by
     have:=(jP.1 V).1;simp [World.putObj,this]
    have T:Ev H w (H.aU b (.map (eJ m u d))) (w.putObj b (.map f q)):=jI (by rw[hb];simp) rfl rfl rfl (by simp [World.putObj]) J λcs t fr h=>by
     rw[V] at h;cases h
    exact⟨hQ hH T J ⟨f,q,a0,g1,g2 (fF T.kept _ h3) (j6 T.kept _ hd),Hn _ _ h4,g3⟩,T⟩
   rcases s.find w y es.toList a4 with⟨X,f2⟩|⟨j,e,X,f2,Z⟩
   ·have g:eJ m u d=m++[(u,d)]:=Ft λp A=>by
     obtain⟨j,hj⟩:=pc A;have F:=ai (·[j]?) L;simp only[bg,hj,gJ] at F;cases M:es.toList[j]? with
     |none=>rw[M] at F;cases F
     |some e=>rw[M] at F;simp at F;rw[<-F];exact f2 e (eh M)
    obtain⟨k1,k2⟩:=fin (es.push {key:=u,val:=z,born:=n}) (n+1) (by rw[g];simp [L]) (λhv hz=>by
     rw[g,bI,Array.toList_push,bI];exact vz hv hz) (by
     rw[Array.toList_push,bI];refine⟨λb hb=>?_,?_⟩
     ·rcases bB.1 hb with hb|hb
      ·exact Nat.lt_succ_of_lt (r.1 b hb)
      ·simp only[cC,fw,bM] at hb
       omega
     ·rw[mW]
      refine⟨r.2,by simp,λa ha b hb e=>?_⟩;simp only[cC,fw,bM] at hb;have:=r.1 a ha;omega)
    refine⟨_,_,?_,k1,k2,h⟩
    simp only[Instr.mapUpdate,Sem.run_bind,bH a1,Result.andThen,G,s.check w _ y,X,I]
   ·obtain⟨p,A,B⟩:=Dq L f2
    have N:p.1=u:=B.trans Z;have g:eJ m u d=m.set j (u,d):=by rw[<-N];exact Jc h4 A
    have a6:j<m.length:=(gI.1 A).1;obtain⟨q1,q2⟩:=Fs (v:=z) f2;rw[Z] at q1 q2;obtain⟨k1,k2⟩:=fin (es.modify j λx=>{key:=u,val:=z,born:=x.born}) n (by
     rw[q1,L,g];apply np;intro i;simp only[bg,zO];by_cases hi:j=i
     ·subst hi
      have a8:m[j]=p:=(gI.1 A).2;simp [a8,N,a6]
     ·simp [hi]) (λhv hz=>by
     rw[q2,g,List.map_set];exact yL hv hz) (by rw[Fq f2];exact r)
    refine⟨_,_,?_,k1,k2,h⟩;have a5:es[j]?=some e:=by simpa using f2
    simp only[Instr.mapUpdate,Sem.run_bind,bH a1,Result.andThen,G,s.check w _ y,X,a5,gJ,rF,Z,s.stays w y,I]
  ·exact h.elim
 ·exact h.elim
end Go.Proofs.YtffgfafbffdgaaaGreatDoor
namespace Go.Proofs.YtffgfafbffdgaaaGreatDoor
open Go.RowKit
variable {H:aA}{w:World}{b o sz:Nat}{ty t:TypeId}
theorem PS {P:Program}(G:eF w H){k:Nat}{els new:List (List D)}{us:List Value}{cs:Array Value}{fr:Nat×Nat}(hb:H b=some (.row ty o sz els))(r:w.heap[b]?=some (Obj.cells cs ty fr))
  (hn:∀e∈new,e.length=sz) (hu:aW w H.others new.flatten us) (w9:us.length=new.length * sz) (hk:k<=els.length) (M:o+k * sz+us.length<=cs.size):
  ∃c,(storeCells ⟨b,o+k * sz,none⟩ us).run P w=.ok () c/\eF c (H.aU b (.row ty o sz (els.take k++new++els.drop (k+new.length))))/\Ev H w (H.aU b (.row ty o sz (els.take k++new++els.drop (k+new.length)))) c:=by
 obtain⟨y,z,q,F,X,Z⟩:=G _ _ hb;rw[r] at q;injection q with q
 cases q;obtain⟨c,u,N,R,S,T,I,s,A,B,V,W⟩:=fU (P:=P) b ty fr us (o+k * sz) 0 w cs r F (by omega) (lD hu);have n:Ev H w (H.aU b (.row ty o sz (els.take k++new++els.drop (k+new.length)))) c:=jI (by rw[hb];simp) N R S T I (λy t0 z p=>by
  rw[r] at p;injection p with p
  injection p with J K L
  subst J K L;exact⟨s,_,A,B⟩)
 have g:(els.take k).length=k:=by rw[bX];omega
 refine⟨c,u,hQ G n I ⟨s,fr,A,by rw[B];exact F,?_,?_⟩,n⟩
 ·rw[B,aV,aV,g,gd]
  rcases fv els.length (k+new.length) with a4|wY
  ·have:els.length - (k+new.length)=0:=by omega
   rw[this,rM,dc];omega
  ·have:k+new.length+(els.length - (k+new.length))=els.length:=by omega
   rw[this];exact X
 ·have l:∀j,c.cell? ⟨b,j,none⟩=s[j]?:=λj=>cell_of_row c b j s ty fr A
  have x:∀j,w.cell? ⟨b,j,none⟩=cs[j]?:=λj=>cell_of_row w b j cs ty fr r;have E:∀h:Nat,h<o+k * sz\/o+k * sz+us.length<=h->c.cell? ⟨b,h,none⟩=w.cell? ⟨b,h,none⟩:=λh f=>by rw[l,x];exact W h (by omega)
  have xz:∀(i:Nat) (d:List D),els[i]?=some d->(i<k\/k+new.length<=i)->d.length=sz/\bU c (H.aU b (.row ty o sz (els.take k++new++els.drop (k+new.length)))).others b (o+i * sz) d:=λi d a wZ=>by
   obtain⟨q1,q2⟩:=ca Z i d a;refine⟨q1,?_⟩;obtain⟨vs,m,h6⟩:=cf q2;refine dD (bO n.kept _ m) λj v f=>?_;have a5:=cj m;have a0:j<sz:=by have:=(gI.1 f).1;omega
   rw[E _ ?_]
   ·exact h6 j v f
   ·rcases wZ with wZ|wZ
    ·left
     have:(i+1) * sz<=k * sz:=jl _ wZ;rw[dc] at this;omega
    ·right
     have:(k+new.length) * sz<=i * sz:=jl _ wZ;rw[dc] at this;omega
  refine dV λi d a=>?_;rcases fv i k with wZ|wZ
  ·rw[bE,kT (by omega),mP,aD wZ] at a
   exact xz i d a (.inl wZ)
  ·rcases fv i (k+new.length) with Yf|Yf
   ·rw[bE,mO (by omega),g,kT (by omega)] at a
    refine⟨hn d (eh a),?_⟩;have m:=fY sz (fX ((i - k) * sz) hu);rw[AI hn a] at m;refine dD (bO n.kept _ m) λj v f=>?_;rw[mP] at f;split at f
    ·rw[nn] at f
     rw[l,<-V _ v f];congr 1;have:k * sz+(i - k) * sz=i * sz:=by rw[<-dc];congr 1;omega
     omega
    ·cases f
   ·rw[mO (by rw[aV];omega),aV,g,nn] at a
    rw[show k+new.length+(i - (k+new.length))=i by omega] at a;exact xz i d a (.inr Yf)
def rU (P:Program) (H:aA) (t:TypeId) (x:D) (K:D->aA->Prop):Prop:=
 match cG P t,x with
 |some ⟨.slice e,_,_,_⟩,.os b o sz k n=>(match cG P e,H b with
  |some ⟨_,a,_,some c⟩,some (.row ty o' aEI els)=>c.length=sz/\a=sz/\aEI=sz/\o'=o/\c.all Value.oneCell'=true/\k<=els.length/\K (.val undef) (H.aU b (.row ty o sz (els.take k)))
  |_,_=>False)
 |_,_=>False
theorem GL {k:Nat}{els:List (List D)}(h:eF w (H.aU b (.row ty o sz els))):eF w (H.aU b (.row ty o sz (els.take k))):=λc y g=>by
 by_cases e:c=b
 ·subst e
  rw[aK] at g;injection g with g
  subst g;obtain⟨cs,f,m,n,r,p⟩:=h c _ (aK _ _ _);refine⟨cs,f,m,n,?_,dV λi s j=>?_⟩
  ·have:(els.take k).length * sz<=els.length * sz:=jl _ (by rw[bX];omega)
   omega
  ·rw[mP] at j
   split at j
   ·obtain⟨x,z⟩:=ca p i s j
    refine⟨x,?_⟩;obtain⟨I,u,v⟩:=cf z;refine dD (bO ⟨bh _,λd a _=>⟨?_,rfl⟩,λ_ _ _ f h=>⟨_,f,h,rfl⟩⟩ _ u) v;unfold aA.others at a ⊢;by_cases l:d=c
    ·subst l;rw[aK] at a;cases a
    ·rw[aJ l] at a ⊢;exact a
   ·cases j
 ·rw[aJ e] at g
  have q:=h c y (by rw[aJ e];exact g);have F:∀d,(H.aU b (.row ty o sz els)).others d->(H.aU b (.row ty o sz (els.take k))).others d:=λd a=>by
   unfold aA.others at a ⊢;by_cases l:d=b
   ·subst l;rw[aK] at a;cases a
   ·rw[aJ l] at a ⊢;exact a
  have kept:zT (H.aU b (.row ty o sz els)).others (H.aU b (.row ty o sz (els.take k))).others w w:=⟨bh _,λd a _=>⟨F d a,rfl⟩,λ_ _ _ f h=>⟨_,f,h,rfl⟩⟩;cases y with
  |row t2 K G A=>
   obtain⟨cs,f,m,n,r,p⟩:=q
   refine⟨cs,f,m,n,r,dV λi s j=>?_⟩
   obtain⟨x,z⟩:=ca p i s j
   refine⟨x,?_⟩
   obtain⟨I,u,v⟩:=cf z
   exact dD (bO kept _ u) v
  |map J=>
   obtain⟨E,B,m,n,r,p⟩:=q
   exact⟨E,B,m,n,fF kept _ r,p⟩
  |hid=>exact q
  |obj o=>exact q
theorem xp {d:World}{x y:cY}(h:Ev H w (H.aU b x) d):Ev H w (H.aU b y) d:=
 ⟨h.os,h.tape,h.output,h.size,λc g i=>by
  obtain⟨f,a⟩:=h.cM c g i;refine⟨f,?_⟩;by_cases e:c=b
  ·subst e;rw[aK] at a;cases a
  ·rw[aJ e] at a ⊢;exact a,h.shape⟩
theorem Pe {P:Program}(R:eF w H){ty:TypeId}{x:D}{v:Value}{K:D->aA->Prop}(h:rU P H t x K)(hx:D.is w H.others x v):
  ∃r X j H',(Builtin.clear_ #[t] ty #[v]).run P w=.ok r j/\D.is j H'.others X r/\eF j H'/\Ev H w H' j/\K X H':=by
 unfold rU at h;split at h
 ·rename_i e _ _ _ b o sz k n hT
  split at h
  ·rename_i dE a7 a4 a g F d f hE S
   obtain⟨y,rfl,rfl,rfl,L,hk,h⟩:=h;obtain⟨dA,iA,W,a2,B⟩:=cZ hT;injection B with B
   cases dA <;> simp [iI] at B
   subst B;obtain⟨cs,fr,Z,N,h3,h4⟩:=R _ _ S;simp only[D.is] at hx;obtain⟨A,c,rfl,hc,hA⟩:=hx;have I:(n=0\/A=none)->eF w (H.aU b (.row g F d (f.take k)))/\Ev H w (H.aU b (.row g F d (f.take k))) w:=λ_=>by
    have p:H.aU b (.row g F d f)=H:=funext λc=>by
     by_cases e:c=b
     ·subst e;rw[aK,S]
     ·rw[aJ e]
    exact⟨GL (by rw[p];exact R),xp (x:=.row g F d f) (by rw[p];exact dr _ _)⟩
   by_cases hn:n=0
   ·subst hn
    obtain⟨q1,q2⟩:=I (.inl rfl);refine⟨undef,.val undef,w,_,?_,lN _,q1,q2,h⟩;cases A <;> simp [Builtin.clear_,bH W] <;> rfl
   ·rcases hA with hA|⟨rfl,a5,t2,a6,E,a0⟩
    ·omega
    ·rw[Z] at E
     injection E with E
     injection E with b1 b2 b3
     subst b1 b2 b3;obtain⟨z,T,u⟩:=sS hE rfl w;have V:(Builtin.zeroCells z.cells n).toList=(List.replicate n a).flatten:=by
      apply np;intro i;have ir:z.cells.size=a.length:=by rw[<-u,kW]
      have J:∀(m i:Nat),((List.replicate m a).flatten)[i]?=if i<m * a.length then a[i % a.length]? else none:=by
       intro m
       induction m with
       |zero=>intro i;simp
       |succ m ih=>
        intro i
        rw[List.replicate_succ,tM]
        by_cases h:i<a.length
        ·rw[kT h,aD (by rw[kH];omega),zP h]
        ·rw[mO (by omega),ih (i - a.length),kH]
         have:(i - a.length) % a.length=i % a.length:=(Nat.mod_eq_sub_mod (by omega)).symm
         rw[this]
         by_cases N:i<m * a.length+a.length
         ·rw[aD (by omega),aD N]
         ·rw[aC (by omega),aC N]
      rw[J,Array.getElem?_toList];unfold Builtin.zeroCells;rw[ir,Array.getElem?_map,Array.getElem?_range];split
      ·rename_i h
       have hp:0<a.length:=by
        rcases wO a.length with h0|h0
        ·rw[h0] at h;simp at h
        ·exact h0
       have q:i % z.cells.size<z.cells.size:=Nat.mod_lt _ (by omega);simp only[gJ];rw[<-u,kW,Array.getElem?_toList,nr z.cells _ q,Array.getElem?_eq_getElem q]
      ·rfl
     have M:((List.replicate n (a.map D.val)).flatten:List D)=(List.replicate n a).flatten.map .val:=by rw[List.map_flatten,List.map_replicate]
     have G:∀v∈(List.replicate n a).flatten,v.oneCell'=true:=λv hv=>by
      obtain⟨l,hl,s⟩:=List.mem_flatten.1 hv;rw[List.eq_of_mem_replicate hl] at s;exact(dK.1 L) v s
     have w9:((List.replicate n a).flatten).length=(List.replicate n (a.map D.val)).length * d:=by rw[List.length_flatten,List.map_replicate,List.sum_replicate_nat,wJ,y]
     obtain⟨j,g1,g2,g3⟩:=PS (P:=P) R (k:=k) (new:=List.replicate n (a.map .val)) (us:=(List.replicate n a).flatten) S Z (λe he=>by rw[List.eq_of_mem_replicate he,aS,y]) (by rw[M];exact oL _ G) w9 hk (by
      rw[w9,wJ];have:(k+n) * d<=(k+c) * d:=jl _ (by omega);rw[dc] at this;omega)
     refine⟨undef,.val undef,j,_,?_,lN _,GL (k:=k) g2 |> λhh=>?_,xp g3,h⟩
     ·obtain⟨m,rfl⟩:∃m,n=m+1:=⟨n - 1,by omega⟩
      simp only[Builtin.clear_,rB,lk,Sem.run_bind,bH W,Result.andThen,T,V,g1,Sem.run_pure];rfl
     ·have:(f.take k++List.replicate n (a.map D.val)++f.drop (k+(List.replicate n (a.map D.val)).length)).take k=f.take k:=by
       rw[bE,uh (by rw[bX];omega),wT,Nat.min_self]
      rwa[this] at hh
  ·exact h.elim
 ·exact h.elim
def oe (P:Program) (H:aA) (t:TypeId) (x y:D) (K:D->aA->Prop):Prop:=False
theorem Pg {P:Program}(d:eF w H){xt ty:TypeId}{x y:D}{v u:Value}{K:D->aA->Prop}(h:oe P H t x y K)(hx:D.is w H.others x v)(hy:D.is w H.others y u):
  ∃r c a H',(Builtin.copy_ #[t,xt] ty #[v,u]).run P w=.ok r a/\D.is a H'.others c r/\eF a H'/\Ev H w H' a/\K c H':=by
 unfold oe at h;exact h.elim
end Go.Proofs.YtffgfafbffdgaaaGreatDoor
