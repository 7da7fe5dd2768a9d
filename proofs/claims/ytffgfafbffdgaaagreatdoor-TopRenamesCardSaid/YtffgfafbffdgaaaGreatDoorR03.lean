/- Lemmas and contracts of functions, several texts in one. -/
import Derived.Test.YtffgfafbffdgaaaGreatDoorR02
import Derived.Maps.Keyed
import Derived.RangeFuncRecord
set_option maxRecDepth 100000
set_option maxHeartbeats 4000000
set_option linter.all false
namespace Go.Proofs.YtffgfafbffdgaaaGreatDoor
open Go.RowKit
variable {w:World}{H:aA}{P:Program}{t xt e:TypeId}
def TD.gX:TD->Bool
 | .int _=>false
 |_=>true
def gP (H:aA) (sz:Nat) (x:D) (K:List (List D)->Prop):Prop:=
 match x with
 | .val (.string s)=>sz=1/\K (s.data.toList.map bD)
 |x=>gy H sz x K
theorem oK {S:Nat->Prop}:∀(l:List UInt8),aW w S (l.map bD).flatten (l.map λb=>.int .u8 (b.toNat:Int))
 |[]=>by simp [aW]
 |c::l=>by
  simp only[cC,tM,bD,List.singleton_append,aW,D.is];exact⟨_,_,rfl,rfl,rfl,oK l⟩
theorem Ho {P:Program}(p:eF w H){sz:Nat}{x:D}{v:Value}{K:List (List D)->Prop}(h:gP H sz x K)(hx:D.is w H.others x v):
  ∃els us,K els/\(∀e∈els,e.length=sz)/\aW w H.others els.flatten us/\us.length=els.length * sz/\(∀W,(Builtin.lenOf v).run P W=.ok els.length W)/\∀W:World,W.heap=w.heap->(Builtin.firstCells sz els.length v).run P W=.ok ⟨us⟩ W:=by
 unfold gP at h;split at h
 ·rename_i s
  obtain⟨rfl,h⟩:=h;have e:=cQ hx;subst e;have l:s.size=s.data.toList.length:=kW.symm;refine⟨_,s.data.toList.map λb=>.int .u8 (b.toNat:Int),h,λe u=>?_,oK _,by rw[aS,aS,jZ],λW=>?_,λW _=>?_⟩
  ·obtain⟨c,_,rfl⟩:=cD.1 u;rfl
  ·rw[aS,<-l];rfl
  ·have z:(List.map bD s.data.toList).length=s.size:=by rw[aS];exact l.symm
   rw[z];simp only[Builtin.firstCells,Sem.run_pure];congr 1;apply gm;simp only[Array.toList_map];rw[show(s.extract 0 s.size)=s from ByteArray.ext (by rw[zE];exact Array.extract_size)]
 ·obtain⟨els,A,c,i,rfl,B,f⟩:=pz p h hx
  rcases f with rfl|⟨b,o,rfl,E,k⟩
  ·refine⟨[],[],i,by simp,by simp [aW],by simp,λW=>rfl,λW _=>?_⟩
   cases A with
   |none=>rfl
   |some a=>simp only[Builtin.firstCells,dX,rL];rfl
  ·obtain⟨us,m,g,n⟩:=mo k
   refine⟨els,us,i,lR k,m,g,λW=>rfl,λW r=>?_⟩;simp only[Builtin.firstCells];rw[<-g];have:=run_loadCells_list (P:=P) W ⟨b,o,none⟩ us (λj v y=>by
    rw[Addr.add_lit,<-n j v y];simp only[World.cell?,r])
   rw[this]
theorem Ao {w:World}{ty:TypeId}{f:TypeDesc}{E:Ti}(ht:P.underlying t=some (.slice e))(i:P.underlying xt=some f)(g:(iI f).gX=true)
  (hE:cG P e=some E) (a:Addr) (n c m:Nat) (x:Value) (us:List Value) (cd:∀W,(Builtin.lenOf x).run P W=.ok m W) (b:∀W:World,W.heap=w.heap->(Builtin.firstCells E.size m x).run P W=.ok ⟨us⟩ W)
  (k:n+m<=c) (j:World) (h:(storeCells (a.add (n * E.size)) us).run P w=.ok () j):(Builtin.append_ #[t,xt] ty #[.slice (some a) n c,x]).run P w=.ok (.slice (some a) (n+m) c) j:=by
 unfold Builtin.append_;cases f <;> first
  |(cases g;done)
  |(simp only[rB,lk,tF,Sem.run_bind,bH ht,bH i,Result.andThen,ek hE,ia,dY,cd w,Sem.run_pure,jW,dN,pS,aD k,b w rfl,h])
theorem lU {w:World}{ty:TypeId}{p:TypeDesc}{E:Ti}{R:List Value}(ht : P.underlying t = some (.slice e))(l : P.underlying xt = some p)(j : (iI p).gX = true)
    (hE : cG P e = some E) (hz : E.zero = some R) (A : Option Addr) (n c m : Nat) (x : Value) (us xz : List Value) (cd : ∀ W, (Builtin.lenOf x).run P W = .ok m W) (g : ∀ W : World, W.heap = w.heap -> (Builtin.firstCells E.size m x).run P W = .ok ⟨us⟩ W)
    (hold : ∀ W : World, W.heap = w.heap -> (Builtin.firstCells E.size n (.slice A n c)).run P W = .ok ⟨xz⟩ W) (y : E.bytes ≠ 0) (hb : (n + m) * E.bytes <= 140737488355328) :
    (n + m <= c -> ∀ M, (match A with | some a => storeCells (a.add (n * E.size)) us | none => pure () : Sem Unit).run P w = .ok () M -> (Builtin.append_ #[t, xt] ty #[.slice A n c, x]).run P w = .ok (.slice A (n + m) c) M) /\
    (c < n + m -> ∃ cap f, n + m <= cap /\ (Builtin.append_ #[t, xt] ty #[.slice A n c, x]).run P w = .ok (.slice (some ⟨w.heap.size, 0, none⟩) (n + m) cap) (w.drew.alloc (Obj.cells ⟨xz ++ us ++ f⟩ e)) /\ f.length = (cap - (n + m)) * R.length) := by
  obtain ⟨i, b1, b2, N, b4, V⟩ := qG hE w;have s : ∀ W, (typeInfo e).run P W = .ok i W := λW => by
    obtain ⟨i', Z, _, _, _, o⟩ := qG hE W;rw [V] at o;injection o with o
    subst o;exact Z
  constructor
  · intro T M b
    unfold Builtin.append_
    cases p <;> first
      | (cases j; done)
      | (simp only [rB, lk, tF, Sem.run_bind, bH ht, bH l, Result.andThen, ek hE, ia, dY, cd w, Sem.run_pure, jW, dN, pS, aD T, g w rfl]
         cases A with
         | none =>
           simp only [Sem.run_pure] at b ⊢
           injection b with _ b
           subst b
           rfl
         | some a =>
           simp only at b ⊢
           simp only [Sem.run_bind, b, Result.andThen, Sem.run_pure])
  · intro B
    have G : ¬ (n + m <= c) := by omega
    have I : ¬ (((n + m : Nat) : Int) > IntKind.i64.max /\ i.bytes = 0) := by
      rintro ⟨h1, h2⟩;exact y (N.trans h2)
    have S := growslice_fits B hb
    have J : ¬ (Builtin.nextslicecap (n + m) c * i.bytes > 2 ^ 48) := by rw [<- N]; omega
    obtain ⟨cap, h⟩ : ∃ cap, cap = (Question.appendCap (n + m) c e).cut (w.tape w.drawn (.appendCap (n + m) c e)) := ⟨_, rfl⟩
    have wY : n + m <= cap := by rw [h]; simp [Question.cut]
    have r : (choose (.appendCap (n + m) c e)).run P w = .ok cap w.drew := by
      rw [h];simp only [choose, Sem.run, Question.forced];rfl
    have v : ∀ k W, (askRoom k).run P W = .ok () W := λk W => by
      unfold askRoom;split <;> rfl
    obtain ⟨z, K, L⟩ := sS hE hz w.drew
    refine ⟨cap, (Builtin.zeroCells z.cells (cap - (n + m))).toList, wY, ?_, by simp [Builtin.zeroCells, <- L]⟩
    have u : (⟨xz⟩ : Array Value) ++ ⟨us⟩ ++ Builtin.zeroCells z.cells (cap - (n + m)) = ⟨xz ++ us ++ (Builtin.zeroCells z.cells (cap - (n + m))).toList⟩ := gm (by simp)
    unfold Builtin.append_
    cases p <;> first
      | (cases j; done)
      | (simp only [rB, lk, tF, Sem.run_bind, bH ht, bH l, Result.andThen, ek hE, ia, dY, cd w, Sem.run_pure, jW, dN, pS, aC G, s, aC I, aC J, r, v, hold w.drew rfl, g w.drew rfl, K, newRow, newObj, Sem.run]
         rw [u]
         rfl)
def Gz (P:Program) (H:aA) (t xt:TypeId) (s x:D) (K:D->aA->Prop):Prop:=
 match cG P t,cG P xt with
 |some ⟨.slice e,_,_,_⟩,some X=>X.d.gX=true/\(match cG P e with
  |some ⟨_,g,j,some r⟩=>r.length=g/\j≠0/\gP H g x λa=>(match s with
   | .val (.slice none 0 0)=>a.length * j<=140737488355328/\(a=[]->K (.val (.slice none 0 0)) H)/\(a≠[]->∀b,H b=none->K (.os b 0 g 0 a.length) (H.aU b (.row e 0 g a)))
   | .Ep=>a.length * j<=140737488355328/\(a=[]->K .Ep H)/\(a≠[]->∀b,H b=none->K (.os b 0 g 0 a.length) (H.aU b (.row e 0 g a)))
   | .os b o m k n=>m=g/\(n+a.length) * j<=140737488355328/\(match H b with
    |some (.row p i h f)=>p=e/\i=o/\h=g/\k+n<=f.length/\∀l i,(H.del b) l=none->K (.os l i g 0 (n+a.length)) ((H.del b).aU l (.row e i g ((f.drop k).take n++a)))
    |_=>False)
   | .val (.slice (some ⟨b,o,none⟩) n c)=>n+a.length<=c/\(match H b with
    |some (.row p i h f)=>i=o/\h=g/\c<=f.length/\K (.val (.slice (some ⟨b,o,none⟩) (n+a.length) c)) (H.aU b (.row p o g (f.take n++a++f.drop (n+a.length))))
    |_=>False)
   |_=>False)
  |_=>False)
 |_,_=>False
theorem aA.Is (H:aA)(b:Nat)(x:cY):(H.del b).aU b x=H.aU b x:=funext λc=>by
 by_cases h:c=b
 ·subst h;rw[aK,aK]
 ·rw[aJ h,aJ h,bL h]
theorem aA.WH (H:aA)(b:Nat):(H.del b).le H:=λc x h=>by
 by_cases e:c=b
 ·subst e;rw[lf] at h;cases h
 ·rw[bL e] at h;exact h
abbrev pR:=@aA.WH
theorem nV (H:aA)(w:World):Ev H w H w.drew:=⟨rfl,rfl,rfl,bh _,λ_ _ h=>⟨rfl,h⟩,λ_ _ _ a h=>⟨_,a,h,rfl⟩⟩
theorem eF.drew (h:eF w H):eF w.drew H:=λb x a=>(nV H w).jb rfl (h b x a)
theorem An (b:eF w H)(t:TypeId)(sz:Nat)(els:List (List D))(vs us:List Value)(hv:aW w H.others els.flatten vs)(ir:∀el∈els,el.length=sz)(cd:vs.length=els.length * sz):
  eF (w.alloc (Obj.cells ⟨vs++us⟩ t)) (H.aU w.heap.size (.row t 0 sz els)):=by
 refine b.alloc ⟨⟨vs++us⟩,(0,0),heap_alloc_new w _,JH _,by simp;omega,?_⟩;refine nf ir (bO (gN _ _ b).kept _ hv) λj v c=>?_;rw[cell_of_row _ _ _ _ _ _ (heap_alloc_new w _),kG];have a:=(gI.1 c).1;simp only[rB];rw[kT a];exact c
theorem TO {P:Program}(B:eF w H){S:Sem Value}{ty:TypeId}{sz n k b o' c zl:Nat}{A:Option Addr}{els f:List (List D)}{us:List Value}{K:D->aA->Prop}
  (l:H b=some (.row ty o' sz f)) (aM:k+n<=f.length) (a7:zl=sz)
  (h:∀b' o',(H.del b) b'=none->K (.os b' o' sz 0 (n+els.length)) ((H.del b).aU b' (.row ty o' sz ((f.drop k).take n++els))))
  (ab:n<=c) (M:c=0\/(A=some ⟨b,o'+k * sz,none⟩/\∃cs t fr,w.heap[b]?=some (Obj.cells cs t fr)/\o'+(k+c) * sz<=cs.size))
  (ir:∀e∈els,e.length=sz) (y:aW w H.others els.flatten us) (w9:us.length=els.length * sz)
  (a4:∀xz:List Value,(∀W:World,W.heap=w.heap->(Builtin.firstCells sz n (.slice A n c)).run P W=.ok ⟨xz⟩ W)->
   (n+els.length<=c->∀g,(match A with|some a=>storeCells (a.add (n * sz)) us|none=>pure ():Sem Unit).run P w=.ok () g->S.run P w=.ok (.slice A (n+els.length) c) g)/\
   (c<n+els.length->∃cap i,n+els.length<=cap/\S.run P w=.ok (.slice (some ⟨w.heap.size,0,none⟩) (n+els.length) cap) (w.drew.alloc (Obj.cells ⟨xz++us++i⟩ ty))/\i.length=(cap - (n+els.length)) * zl)):
  ∃r d' g H',S.run P w=.ok r g/\D.is g H'.others d' r/\eF g H'/\Ev H w H' g/\K d' H':=by
 obtain⟨cs,fr,L,g2,g3,g4⟩:=B _ _ l;have p:=ko (mn g4 k) n;have x:((f.drop k).take n).length=n:=by rw[bX,gd];omega
 obtain⟨xz,o1,o2,o3⟩:=mo p;rw[x] at o2;have hold:∀W:World,W.heap=w.heap->(Builtin.firstCells sz n (.slice A n c)).run P W=.ok ⟨xz⟩ W:=λW hW=>by
  rcases M with M|⟨rfl,_⟩
  ·obtain rfl:n=0:=by omega
   have:xz=[]:=cy (by simpa using o2);subst this;cases A <;> simp [Builtin.firstCells,loadCells,loadCellsFrom]
  ·simp only[Builtin.firstCells]
   rw[<-o2];exact run_loadCells_list (P:=P) W ⟨b,o'+k * sz,none⟩ xz (λj v E=>by
    rw[Addr.add_lit,<-o3 j v E];simp only[World.cell?,hW])
 obtain⟨r1,r2⟩:=a4 xz hold;by_cases o:n+els.length<=c
 ·
  have m:=h b (o'+k * sz) (lf H b);rw[aA.Is] at m;have a8:k * sz+n * sz<=f.length * sz:=by rw[<-dc];exact jl _ aM
  rcases M with M|⟨rfl,a9,t1,aa,V,f2⟩
  ·obtain rfl:n=0:=by omega
   have a0:els=[]:=cy (by omega);subst a0;have a3:us=[]:=cy (by simpa using w9);subst a3;have s:Ev H w (H.aU b (.row ty (o'+k * sz) sz ((f.drop k).take 0++[]))) w:=jI (by rw[l];simp) rfl rfl rfl rfl (λ_ _=>rfl) (λI t0 J z=>⟨I,J,z,rfl⟩);refine⟨_,_,w,_,r1 o w (by cases A <;> rfl),?_,hQ B s (λ_ _=>rfl) ⟨cs,fr,L,g2,?_,?_⟩,s,m⟩
   ·simp only[D.is]
    exact⟨A,c,rfl,by omega,.inl M⟩
   ·simp;omega
   ·simp only[gK,bz,cK]
  ·rw[L] at V
   injection V with V
   injection V with x1 x2 x3
   subst x1 x2 x3;have a5:o'+k * sz+n * sz+0+us.length<=cs.size:=by
    rw[w9];have:(k+(n+els.length)) * sz<=(k+c) * sz:=jl _ (by omega);rw[dc,dc] at this;omega
   obtain⟨g,a1,e1,e2,e3,e4,ho,T,Z,q2,q3,q4⟩:=fU (P:=P) b ty fr us (o'+k * sz+n * sz) 0 w cs L g2 a5 (lD y);have s:Ev H w (H.aU b (.row ty (o'+k * sz) sz ((f.drop k).take n++els))) g:=jI (by rw[l];simp) e1 e2 e3 e4 ho (λI t0 J z=>by
    rw[L] at z;injection z with z
    injection z with x1 x2 x3
    subst x1 x2 x3;exact⟨T,_,Z,q2⟩)
   refine⟨_,_,g,_,r1 o g (by simp only[Addr.add_lit];exact a1),?_,hQ B s ho ⟨T,fr,Z,by rw[q2];exact g2,?_,?_⟩,s,m⟩
   ·simp only[D.is]
    refine⟨_,c,rfl,o,.inr ⟨by simp,T,ty,fr,Z,?_⟩⟩;rw[q2,kG];have:(k+c) * sz=k * sz+c * sz:=dc _ _ _;omega
   ·rw[q2,aV,x,dc,<-w9]
    omega
   ·have G:∀j,g.cell? ⟨b,j,none⟩=T[j]?:=λj=>cell_of_row g b j T ty fr Z
    have a2:∀j,w.cell? ⟨b,j,none⟩=cs[j]?:=λj=>cell_of_row w b j cs ty fr L;refine nf (vs:=xz++us) ?_ ?_ ?_
    ·intro el u
     rcases bB.1 u with h1|h1
     ·exact lR p el h1
     ·exact ir el h1
    ·rw[zH]
     exact cg (bO s.kept _ o1) (bO s.kept _ y)
    ·intro j v E
     rcases fv j xz.length with a6|wY
     ·rw[kT a6] at E
      rw[G,q4 _ (by omega),<-a2];exact o3 j v E
     ·rw[mO wY] at E
      rw[G,show o'+k * sz+j=o'+k * sz+n * sz+0+(j - xz.length) by omega];exact q3 _ v E
 ·
  obtain⟨cap,i,h3,h4,h5⟩:=r2 (by omega);have N:eF w.drew (H.del b):=B.drew.less (pR H b);have hn:(H.del b) w.heap.size=none:=by
   have:=ff B;rw[bL]
   ·exact this
   ·have:=B.lt l
    omega
  have R:zT H.others (H.del b).others w w.drew:=(nV H w).less (pR H b) |>.kept;refine⟨_,_,_,_,h4,?_,?_,((nV H w).less (pR H b)).trans (gN _ _ N),h w.heap.size 0 hn⟩
  ·simp only[D.is]
   refine⟨_,_,rfl,h3,.inr ⟨by simp,_,ty,(0,0),heap_alloc_new w.drew _,?_⟩⟩;simp only[zN,aV,h5,w9,a7,o2];rw[<-dc,<-dc];simp only[kG];exact jl _ (by omega)
  ·have:=An (w:=w.drew) N ty sz ((f.drop k).take n++els) (xz++us) i (by rw[zH];exact cg (bO R _ o1) (bO R _ y)) (by
     intro el u;rcases bB.1 u with h1|h1
     ·exact lR p el h1
     ·exact ir el h1) (by rw[aV,aV,x,o2,w9,dc])
   simpa using this
theorem T7 (G:eF w H){ty:TypeId}{s x:D}{v u:Value}{K:D->aA->Prop}(h:Gz P H t xt s x K)(hs:D.is w H.others s v)(hx:D.is w H.others x u):
  ∃r d' m H',(Builtin.append_ #[t,xt] ty #[v,u]).run P w=.ok r m/\D.is m H'.others d' r/\eF m H'/\Ev H w H' m/\K d' H':=by
 unfold Gz at h;split at h
 ·rename_i e _ _ _ X hT hX
  obtain⟨B,h⟩:=h;split at h
  ·rename_i dE sz rq zs hE
   obtain⟨a4,L,h⟩:=h;obtain⟨d,i,S,a2,a3⟩:=cZ hT;injection a3 with a3
   cases d <;> simp [iI] at a3
   subst a3;obtain⟨dx,ix,c1,c2,rfl⟩:=cZ hX;obtain⟨a,E,h,ir,M,w9,cd,y⟩:=Ho (P:=P) G h hx;have Z:∀(A:Option Addr),a.length * rq<=140737488355328->a≠[]->K (.os w.heap.size 0 sz 0 a.length) (H.aU w.heap.size (.row e 0 sz a))->
     ∃r d' m H',(Builtin.append_ #[t,xt] ty #[.slice A 0 0,u]).run P w=.ok r m/\D.is m H'.others d' r/\eF m H'/\Ev H w H' m/\K d' H':=by
    intro A hb g hk;obtain⟨_,h2⟩:=lU (P:=P) (w:=w) (ty:=ty) S c1 B hE rfl A 0 0 a.length u E [] cd y (λW _=>by cases A <;> simp [Builtin.firstCells,loadCells,loadCellsFrom]) L (by simpa using hb);have ak:0<a.length:=by
     rcases a with _|⟨_,_⟩
     ·exact absurd rfl g
     ·simp
    obtain⟨al,a5,R,h4,h5⟩:=h2 (by omega);rw[kG] at h4 R;refine⟨_,_,_,_,h4,?_,?_,(nV H w).trans (gN _ _ G.drew),hk⟩
    ·simp only[D.is]
     refine⟨_,_,rfl,R,.inr ⟨by simp,_,e,(0,0),heap_alloc_new w.drew _,?_⟩⟩;simp only[zN,aV,dX,kG,h5,w9,a4];rw[<-dc];exact jl _ (by omega)
    ·have:=An (w:=w.drew) G.drew e sz a E a5 (bO (nV H w).kept _ M) ir w9
     simpa using this
   split at h
   ·obtain⟨hb,h1,h2⟩:=h
    have e1:=cQ hs;subst e1;by_cases g:a=[]
    ·subst g
     obtain⟨R,_⟩:=lU (P:=P) (w:=w) (ty:=ty) S c1 B hE rfl none 0 0 0 u E [] cd y (λW _=>rfl) L (by simp);exact⟨_,_,w,H,R (by omega) w rfl,lN _,G,dr _ _,h1 rfl⟩
    ·exact Z none hb g (h2 g _ (ff G))
   ·obtain⟨hb,h1,h2⟩:=h
    simp only[D.is] at hs;obtain⟨A,rfl⟩:=hs;by_cases g:a=[]
    ·subst g
     have a9:E=[]:=cy (by simpa using w9);subst a9;obtain⟨R,_⟩:=lU (P:=P) (w:=w) (ty:=ty) S c1 B hE rfl A 0 0 0 u [] [] cd y (λW _=>by cases A <;> simp [Builtin.firstCells,loadCells,loadCellsFrom]) L (by simp);exact⟨_,_,w,H,R (by omega) w (by cases A <;> rfl),by simp only[D.is];exact⟨A,rfl⟩,G,dr _ _,h1 rfl⟩
    ·exact Z A hb g (h2 g _ (ff G))
   ·rename_i b o b0 k n _
    obtain⟨rfl,hb,h⟩:=h;split at h
    ·rename_i p I f l J
     obtain⟨rfl,rfl,rfl,aM,h⟩:=h;simp only[D.is] at hs;obtain⟨A,c,rfl,ag,hA⟩:=hs;exact TO G (ty:=p) J aM a4 h ag hA ir M w9 λxz hold=>lU (P:=P) (w:=w) (ty:=ty) S c1 B hE rfl A n c a.length u E xz cd y hold L hb
    ·exact h.elim
   ·rename_i b o n c _
    obtain⟨a8,h⟩:=h;have e1:=cQ hs;subst e1;split at h
    ·rename_i p I f l J
     obtain⟨rfl,rfl,ar,hk⟩:=h;obtain⟨cs,fr,g1,g2,g3,g4⟩:=G _ _ J;obtain⟨z,o1,o2,o3⟩:=mo (ko g4 n);obtain⟨ab,p1,p2,p3⟩:=mo (mn g4 (n+a.length));have a0:(l.take n).length=n:=by rw[bX];omega
     rw[a0] at o2;rw[gd] at p2;have V:∀q,q<=l.length->I+q * f<=cs.size:=λq hq=>by
      have:q * f<=l.length * f:=jl _ hq;omega
     have ad:I+n * f+0+E.length<=cs.size:=by
      have:=V (n+a.length) (by omega);rw[w9];rw[dc] at this;omega
     obtain⟨m,a6,e1,e2,e3,e4,ho,nN,q1,q2,q3,q4⟩:=fU (P:=P) b p fr E (I+n * f) 0 w cs g1 g2 ad (lD M);have fV:Ev H w (H.aU b (.row p I f (l.take n++a++l.drop (n+a.length)))) m:=jI (by rw[J];simp) e1 e2 e3 e4 ho (λam t0 ap h0=>by
      rw[g1] at h0;injection h0 with h0
      injection h0 with x1 x2 x3
      subst x1 x2 x3;exact⟨nN,_,q1,q2⟩)
     refine⟨_,_,m,_,Ao (ty:=ty) S c1 B hE ⟨b,I,none⟩ n c a.length u E cd y a8 m (by simp only[Addr.add_lit];exact a6),lN _,hQ G fV ho ⟨nN,fr,q1,by rw[q2];exact g2,?_,?_⟩,fV,hk⟩
     ·rw[q2,aV,aV,a0,gd,show n+a.length+(l.length - (n+a.length))=l.length by omega]
      exact V _ (bh _)
     ·have a7:∀j,m.cell? ⟨b,j,none⟩=nN[j]?:=λj=>cell_of_row m b j nN p fr q1
      have T:∀j,w.cell? ⟨b,j,none⟩=cs[j]?:=λj=>cell_of_row w b j cs p fr g1;refine nf (vs:=z++E++ab) ?_ ?_ ?_
      ·intro el ac
       rcases bB.1 ac with h1|h1
       ·rcases bB.1 h1 with h1|h1
        ·exact lR (ko g4 n) el h1
        ·exact ir el h1
       ·exact lR (mn g4 _) el h1
      ·rw[zH,zH]
       exact cg (cg (bO fV.kept _ o1) (bO fV.kept _ M)) (bO fV.kept _ p1)
      ·intro j v N
       rw[a7];rcases fv j (z++E).length with ae|wY
       ·rw[kT ae] at N
        rcases fv j z.length with aa|aCh
        ·rw[kT aa] at N
         rw[q4 _ (by omega),<-T];exact o3 j v N
        ·rw[mO aCh] at N
         rw[show I+j=I+n * f+0+(j - z.length) by omega];exact q3 _ v N
       ·rw[mO wY] at N
        rw[aV] at wY N;have aw:(n+a.length) * f=n * f+a.length * f:=dc _ _ _;rw[q4 _ (by omega),<-T,show I+j=I+(n+a.length) * f+(j - (z.length+E.length)) by omega];exact p3 _ v N
    ·exact h.elim
   ·exact h.elim
  ·exact h.elim
 ·exact h.elim
end Go.Proofs.YtffgfafbffdgaaaGreatDoor
namespace Go.Proofs.YtffgfafbffdgaaaGreatDoor
open Go.Maps (Keyed)
open Go.RowKit
variable {m:List (Value×D)}{w:World}{d x ix:D}{k v z u:Value}{P:Program}{t:TypeId}{es:Array MapEntry}{j:Nat}{e:MapEntry}
noncomputable def iC:List (Value×D)->Value->Option D
 |[],_=>none
 |p::m,x=>open Classical in if p.1=x then some p.2 else iC m x
noncomputable def eJ:List (Value×D)->Value->D->List (Value×D)
 |[],x,d=>[(x,d)]
 |p::m,x,d=>open Classical in if p.1=x then (x,d)::m else p::eJ m x d
theorem fj (x:Value):iC [] x=none:=rfl
theorem jJ:∀(m:List (Value×D)) (x:Value) (d:D),iC (eJ m x d) x=some d
 |[],x,d=>by simp [eJ,iC]
 |p::m,x,d=>by
  simp only[eJ];split
  ·simp [iC]
  ·rename_i h
   simp only[iC,aC h];exact jJ m x d
theorem n9:∀(m:List (Value×D)) {x y:Value}(d:D),x≠y->iC (eJ m x d) y=iC m y
 |[],x,y,d,h=>by simp [eJ,iC,h]
 |p::m,x,y,d,h=>by
  simp only[eJ];split
  ·rename_i h2
   simp only[iC,aC h];rw[aC (by rw[h2];exact h)]
  ·simp only[iC]
   split
   ·rfl
   ·exact n9 m d h
theorem C0:∀(m:List (Value×D)) (x:Value) (d:D),(eJ m x d).map (·.1)=m.map (·.1)/\x∈m.map (·.1)\/(eJ m x d).map (·.1)=m.map (·.1)++[x]/\x∉m.map (·.1)
 |[],x,d=>.inr ⟨by simp [eJ],by simp⟩
 |p::m,x,d=>by
  simp only[eJ];split
  ·rename_i h
   exact .inl ⟨by simp [h],by simp [h]⟩
  ·rename_i h
   rcases C0 m x d with⟨h1,h2⟩|⟨h1,h2⟩
   ·exact .inl ⟨by simp only[cC,h1],dH _ h2⟩
   ·refine .inr ⟨by simp only[cC,h1,dJ],λh3=>?_⟩
    rcases bV.1 h3 with h3|h3
    ·exact h h3.symm
    ·exact h2 h3
theorem Hn (x:Value)(d:D)(h:(m.map (·.1)).Nodup):((eJ m x d).map (·.1)).Nodup:=by
 rcases C0 m x d with⟨f,_⟩|⟨f,l⟩
 ·rw[f];exact h
 ·rw[f,mW]
  refine⟨h,by simp,λa g b i c=>?_⟩;simp only[bM] at i;rw[i] at c;rw[c] at g;exact l g
def fE:List D->Option (List Value)
 |[]=>some []
 | .val v::ds=>(fE ds).map (v::·)
 |_=>none
def gV:D->Option Value
 | .val v=>some v
 | .agg cs=>(fE cs).map λvs=>.agg ⟨vs⟩
 |_=>none
theorem Bo {S:Nat->Prop}:∀(cs:List D) (vs us:List Value),fE cs=some vs->aW w S cs us->us=vs
 |[],vs,us,h1,h2=>by
  simp only[aW] at h2;simp only[fE,iJ] at h1;rw[<-h1,h2]
 |c::cs,vs,us,h1,h2=>by
  simp only[aW] at h2;obtain⟨u,a,rfl,_,h3,h4⟩:=h2;cases c with
  |val v=>
   simp only[fE,El] at h1
   obtain⟨b,f,rfl⟩:=h1
   simp only[D.is] at h3
   rw[h3,Bo cs b a f h4]
  |_=>simp [fE] at h1
theorem CU {S:Nat->Prop}(h:gV d=some k)(hd:D.is w S d v):v=k:=by
 cases d with
 |val u=>
  simp only[gV,iJ] at h
  simp only[D.is] at hd
  rw[hd,h]
 |agg cs=>
  simp only[gV,El] at h
  obtain⟨f,a,rfl⟩:=h
  simp only[D.is] at hd
  obtain⟨c,rfl,b⟩:=hd
  rw[Bo cs f c a b]
 |_=>simp [gV] at h
def ay (P:Program) (t:TypeId):Option Value:=(P.info? t).bind (·.zero)
theorem IJ (h:ay P t=some z)(w:World):(zeroValue t).run P w=.ok z w:=by
 unfold ay at h;obtain⟨i,a,b⟩:=Option.bind_eq_some_iff.1 h;unfold zeroValue typeInfo program;simp [Sem.run,a,b]
def SP (P:Program) (a:TypeId) (m:List (Value×D)) (x:Value):Prop:=Keyed P a/\(∃l,keyOf P a x=some l)/\∀p∈m,∃l,keyOf P a p.1=some l
def yk (P:Program) (H:aA) (t:TypeId) (x ix:D) (ok:Bool) (K:D->Prop):Prop:=
 match cG P t,x,gV ix with
 |some ⟨.map c a,_,_,_⟩,.val (.map (some b)),some kv=>(match H b,ay P a with
  |some (.map m),some z=>SP P c m kv/\(match iC m kv with
   |some d=>K (if ok then .eO [d,.val (.bool true)] else d)
   |none=>K (if ok then .eO [.val z,.val (.bool false)] else .val z))
  |_,_=>False)
 |_,_,_=>False
def AX (P:Program) (H:aA) (t:TypeId) (x ix d:D) (K:aA->Prop):Prop:=
 match cG P t,x,gV ix with
 |some ⟨.map a _,_,_,_⟩,.val (.map (some b)),some kv=>(match H b with
  |some (.map m)=>SP P a m kv/\K (H.aU b (.map (eJ m kv d)))
  |_=>False)
 |_,_,_=>False
def Fp (H:aA) (K:D->aA->Prop):Prop:=∀b,H b=none->K (.val (.map (some b))) (H.aU b (.map []))
theorem Tp {P:Program}{H:aA}(b:eF w H){t:TypeId}{K:D->aA->Prop}(h:Fp H K):
  ∃r c a H',(Instr.makeMap t none).run P w=.ok r a/\D.is a H'.others c r/\eF a H'/\Ev H w H' a/\K c H':=
 ⟨_,_,w.alloc (.map #[] 0),_,rfl,by simp only[D.is],b.alloc (x:=.map []) ⟨#[],0,heap_alloc_new w _,rfl,by simp only[fw,aT],by simp,by simp [Stm]⟩,gN _ _ b,h _ (ff b)⟩
theorem Dq (h:es.toList.map (·.key)=m.map (·.1))(b:es.toList[j]?=some e):∃p,m[j]?=some p/\p.1=e.key:=by
 have a:=ai (·[j]?) h;simp only[bg,b,gJ] at a;cases hm:m[j]? with
 |none=>rw[hm] at a;cases a
 |some p=>rw[hm] at a;simp at a;exact⟨p,rfl,a.symm⟩
theorem CZ:∀{m:List (Value×D)}{x:Value},(∀p∈m,p.1≠x)->iC m x=none
 |[],x,_=>rfl
 |p::m,x,h=>by
  simp only[iC,aC (h p jm)];exact CZ λq a=>h q (dH _ a)
theorem Jb:∀{m:List (Value×D)}{j:Nat}{p:Value×D},(m.map (·.1)).Nodup->m[j]?=some p->iC m p.1=some p.2
 |q::m,0,p,_,h=>by
  simp only[lk,iJ] at h;subst h;simp [iC]
 |q::m,j+1,p,hn,h=>by
  simp only[tF] at h;simp only[cC,pO] at hn;have a:q.1≠p.1:=λe=>hn.1 (by rw[e];exact cD.2 ⟨p,eh h,rfl⟩);simp only[iC,aC a];exact Jb hn.2 h
theorem Jc:∀{m:List (Value×D)}{j:Nat}{p:Value×D}{d:D},(m.map (·.1)).Nodup->m[j]?=some p->eJ m p.1 d=m.set j (p.1,d)
 |q::m,0,p,d,_,h=>by
  simp only[lk,iJ] at h;subst h;simp [eJ]
 |q::m,j+1,p,d,hn,h=>by
  simp only[tF] at h;simp only[cC,pO] at hn;have a:q.1≠p.1:=λe=>hn.1 (by rw[e];exact cD.2 ⟨p,eh h,rfl⟩);simp only[eJ,aC a,List.set_cons_succ];rw[Jc hn.2 h]
theorem Ft:∀{m:List (Value×D)}{x:Value}{d:D},(∀p∈m,p.1≠x)->eJ m x d=m++[(x,d)]
 |[],x,d,_=>rfl
 |p::m,x,d,h=>by
  simp only[eJ,aC (h p jm),dJ];rw[Ft λq a=>h q (dH _ a)]
theorem UU {S:Nat->Prop}(hv:aT w S (m.map (·.2)) (es.toList.map (·.val))){p:Value×D}(c:es.toList[j]?=some e)(hp:m[j]?=some p):D.is w S p.2 e.val:=by
 obtain⟨v,a,b⟩:=iO hv j p.2 (by rw[bg,hp] <;> rfl);rw[bg,c] at a;simp at a;rw[a];exact b
theorem Tn {H:aA}(hH:eF w H){ok:Bool}{K:D->Prop}(h:yk P H t x ix ok K)(hx:D.is w H.others x v)(hi:D.is w H.others ix u):
  ∃r d,(Instr.lookup t v u ok).run P w=.ok r w/\D.is w H.others d r/\K d:=by
 unfold yk at h;split at h
 ·rename_i kt et _ _ _ b kv hT N
  split at h
  ·rename_i m z hb hE
   obtain⟨⟨a,⟨lx,c⟩,G⟩,h⟩:=h;have ev:=cQ hx;subst ev;have Z:=CU N hi;subst Z;obtain⟨d,i,T,a2,A⟩:=cZ hT;injection A with A
   cases d <;> simp [iI] at A
   obtain⟨rfl,rfl⟩:=A;obtain⟨es,E,h1,J,h3,h4,a0⟩:=hH _ _ hb;have L:∀e∈es.toList,∃l,keyOf P kt e.key=some l:=λe s=>by
    obtain⟨j,M⟩:=pc s;obtain⟨p,n,f⟩:=Dq J M;rw[<-f];exact G p (eh n)
   have o:∀(S:Program),(getObj b).run S w=.ok (.map es E) w:=λS=>by simp [getObj,Sem.run,h1]
   rcases a.find w c es.toList L with⟨I,B⟩|⟨j,e,I,B,f3⟩
   ·have hn:iC m u=none:=CZ λp n=>by
     obtain⟨j,M⟩:=pc n;have g:=ai (·[j]?) J;simp only[bg,M,gJ] at g;cases s:es.toList[j]? with
     |none=>rw[s] at g;cases g
     |some e=>rw[s] at g;simp at g;rw[<-g];exact B e (eh s)
    rw[hn] at h
    simp only at h
    have R:=IJ hE w
    have y:D.is w H.others (.val z) z:=by simp only[D.is]
    refine⟨if ok=true then .tuple #[z,.bool false] else z,_,?_,?_,h⟩
    ·simp only[Instr.lookup,Sem.run_bind,bH T,Result.andThen,o,a.check w _ c,I,R,Sem.run_pure]
    ·cases ok
     ·exact y
     ·simp only[dN,D.is,aT]
      exact⟨_,rfl,_,_,rfl,y,_,_,rfl,rfl,rfl⟩
   ·obtain⟨p,n,f⟩:=Dq J B
    have hg:iC m u=some p.2:=by rw[<-f3,<-f];exact Jb h4 n
    rw[hg] at h;simp only at h;have V:=UU h3 B n;refine⟨if ok=true then .tuple #[e.val,.bool true] else e.val,_,?_,?_,h⟩
    ·simp only[Instr.lookup,Sem.run_bind,bH T,Result.andThen,o,a.check w _ c,I,Sem.run_pure]
    ·cases ok
     ·exact V
     ·simp only[dN,D.is,aT]
      exact⟨_,rfl,_,_,rfl,V,_,_,rfl,rfl,rfl⟩
  ·exact h.elim
 ·exact h.elim
theorem Fs (a:es.toList[j]?=some e):((es.modify j λx=>{key:=e.key,val:=v,born:=x.born}).toList.map (·.key))=es.toList.map (·.key)/\((es.modify j λx=>{key:=e.key,val:=v,born:=x.born}).toList.map (·.val))=(es.toList.map (·.val)).set j v:=by
 have hj:j<es.toList.length:=(gI.1 a).1;constructor
 ·apply np
  intro i;simp only[Array.toList_modify,bg,List.getElem?_modify];by_cases h:j=i
  ·subst h;simp [a]
  ·simp [h]
 ·apply np
  intro i;simp only[Array.toList_modify,bg,List.getElem?_modify,zO];by_cases h:j=i
  ·subst h
   have b:j<es.size:=by simpa using hj
   simp [a,b]
  ·simp [h]
theorem Fq (a:es.toList[j]?=some e):((es.modify j λx=>{key:=k,val:=v,born:=x.born}).toList.map (·.born))=es.toList.map (·.born):=by
 apply np;intro i;simp only[Array.toList_modify,bg,List.getElem?_modify];by_cases h:j=i
 ·subst h;simp [a]
 ·simp [h]
theorem vz {S:Nat->Prop}:∀{ds:List D}{vs:List Value}{d:D}{v:Value},aT w S ds vs->D.is w S d v->aT w S (ds++[d]) (vs++[v])
 |[],vs,d,v,h,hd=>by
  simp only[aT] at h;subst h;simp only[cz,aT];exact⟨_,_,rfl,hd,rfl⟩
 |d0::ds,vs,d,v,h,hd=>by
  simp only[aT] at h;obtain⟨u,us,rfl,h1,h2⟩:=h;simp only[dJ,aT];exact⟨_,_,rfl,h1,vz h2 hd⟩
theorem yL {S:Nat->Prop}:∀{ds:List D}{vs:List Value}{j:Nat}{d:D}{v:Value},aT w S ds vs->D.is w S d v->aT w S (ds.set j d) (vs.set j v)
 |[],vs,j,d,v,h,_=>by
  simp only[aT] at h;subst h;simp [aT]
 |d0::ds,vs,0,d,v,h,hd=>by
  simp only[aT] at h;obtain⟨u,us,rfl,_,h2⟩:=h;simp only[List.set_cons_zero,aT];exact⟨_,_,rfl,hd,h2⟩
 |d0::ds,vs,j+1,d,v,h,hd=>by
  simp only[aT] at h;obtain⟨u,us,rfl,a,h2⟩:=h;simp only[List.set_cons_succ,aT];exact⟨_,_,rfl,a,yL h2 hd⟩
theorem Jp {H:aA}(hH:eF w H){K:aA->Prop}(h:AX P H t x ix d K)(hx:D.is w H.others x v)(hi:D.is w H.others ix u)(hd:D.is w H.others d z):
  ∃G H',(Instr.mapUpdate t v u z).run P w=.ok () G/\eF G H'/\Ev H w H' G/\K H':=by
 unfold AX at h;split at h
 ·rename_i kt et _ _ _ b kv hT a8
  split at h
  ·rename_i m hb
   obtain⟨⟨y,⟨lx,A⟩,a0⟩,h⟩:=h;have ev:=cQ hx;subst ev;have eu:=CU a8 hi;subst eu;obtain⟨d1,i,a1,a2,V⟩:=cZ hT;injection V with V
   cases d1 <;> simp [iI] at V
   obtain⟨rfl,rfl⟩:=V;obtain⟨es,n,h1,N,h3,h4,s⟩:=hH _ _ hb;have a5:∀e∈es.toList,∃l,keyOf P kt e.key=some l:=λe R=>by
    obtain⟨j,hj⟩:=pc R;obtain⟨p,B,E⟩:=Dq N hj;rw[<-E];exact a0 p (eh B)
   have J:∀(P':Program),(getObj b).run P' w=.ok (.map es n) w:=λP'=>by simp [getObj,Sem.run,h1]
   have L:∀(o:Obj),(setObj b o).run P w=.ok () (w.putObj b o):=λo=>by simp [setObj,Sem.run,h1,World.putObj]
   have fin:∀(f:Array MapEntry) (r:Nat),f.toList.map (·.key)=(eJ m u d).map (·.1)->(∀{G:World}{S:Nat->Prop},aT G S (m.map (·.2)) (es.toList.map (·.val))->D.is G S d z->aT G S ((eJ m u d).map (·.2)) (f.toList.map (·.val)))->Stm (f.toList.map (·.born)) r->
     eF (w.putObj b (.map f r)) (H.aU b (.map (eJ m u d)))/\Ev H w (H.aU b (.map (eJ m u d))) (w.putObj b (.map f r)):=by
    intro f r g1 g2 g3;have M:∀c,c≠b->(w.putObj b (.map f r)).heap[c]?=w.heap[c]?:=λc hc=>by simp [World.putObj,Array.getElem?_setIfInBounds_ne (Ne.symm hc)]
    have a4:(w.putObj b (.map f r)).heap[b]?=some (.map f r):=by
     have:=(jP.1 h1).1;simp [World.putObj,this]
    have Z:Ev H w (H.aU b (.map (eJ m u d))) (w.putObj b (.map f r)):=jI (by rw[hb];simp) rfl rfl rfl (by simp [World.putObj]) M λcs t fr h=>by
     rw[h1] at h;cases h
    exact⟨hQ hH Z M ⟨f,r,a4,g1,g2 (fF Z.kept _ h3) (j6 Z.kept _ hd),Hn _ _ h4,g3⟩,Z⟩
   rcases y.find w A es.toList a5 with⟨f1,f2⟩|⟨j,e,f1,f2,f3⟩
   ·have g:eJ m u d=m++[(u,d)]:=Ft λp B=>by
     obtain⟨j,hj⟩:=pc B;have I:=ai (·[j]?) N;simp only[bg,hj,gJ] at I;cases R:es.toList[j]? with
     |none=>rw[R] at I;cases I
     |some e=>rw[R] at I;simp at I;rw[<-I];exact f2 e (eh R)
    obtain⟨k1,k2⟩:=fin (es.push {key:=u,val:=z,born:=n}) (n+1) (by rw[g];simp [N]) (λhv hz=>by
     rw[g,bI,Array.toList_push,bI];exact vz hv hz) (by
     rw[Array.toList_push,bI];refine⟨λb hb=>?_,?_⟩
     ·rcases bB.1 hb with hb|hb
      ·exact Nat.lt_succ_of_lt (s.1 b hb)
      ·simp only[cC,fw,bM] at hb
       omega
     ·rw[mW]
      refine⟨s.2,by simp,λa ha b hb e=>?_⟩;simp only[cC,fw,bM] at hb;have:=s.1 a ha;omega)
    refine⟨_,_,?_,k1,k2,h⟩
    simp only[Instr.mapUpdate,Sem.run_bind,bH a1,Result.andThen,J,y.check w _ A,f1,L]
   ·obtain⟨p,B,E⟩:=Dq N f2
    have T:p.1=u:=E.trans f3;have g:eJ m u d=m.set j (u,d):=by rw[<-T];exact Jc h4 B
    have a7:j<m.length:=(gI.1 B).1;obtain⟨q1,q2⟩:=Fs (v:=z) f2;rw[f3] at q1 q2;obtain⟨k1,k2⟩:=fin (es.modify j λx=>{key:=u,val:=z,born:=x.born}) n (by
     rw[q1,N,g];apply np;intro i;simp only[bg,zO];by_cases hi:j=i
     ·subst hi
      have a9:m[j]=p:=(gI.1 B).2;simp [a9,T,a7]
     ·simp [hi]) (λhv hz=>by
     rw[q2,g,List.map_set];exact yL hv hz) (by rw[Fq f2];exact s)
    refine⟨_,_,?_,k1,k2,h⟩;have a6:es[j]?=some e:=by simpa using f2
    simp only[Instr.mapUpdate,Sem.run_bind,bH a1,Result.andThen,J,y.check w _ A,f1,a6,gJ,rF,f3,y.stays w A,L]
  ·exact h.elim
 ·exact h.elim
end Go.Proofs.YtffgfafbffdgaaaGreatDoor
namespace Go.Proofs.YtffgfafbffdgaaaGreatDoor
open Go.RowKit
variable {H:aA}{w:World}{b o sz:Nat}{ty t:TypeId}
theorem PS {P:Program}(J:eF w H){k:Nat}{els new:List (List D)}{us:List Value}{cs:Array Value}{fr:Nat×Nat}(hb:H b=some (.row ty o sz els))(s:w.heap[b]?=some (Obj.cells cs ty fr))
  (hn:∀e∈new,e.length=sz) (hu:aW w H.others new.flatten us) (w9:us.length=new.length * sz) (hk:k<=els.length) (R:o+k * sz+us.length<=cs.size):
  ∃c,(storeCells ⟨b,o+k * sz,none⟩ us).run P w=.ok () c/\eF c (H.aU b (.row ty o sz (els.take k++new++els.drop (k+new.length))))/\Ev H w (H.aU b (.row ty o sz (els.take k++new++els.drop (k+new.length)))) c:=by
 obtain⟨z,A,r,I,h3,h4⟩:=J _ _ hb;rw[s] at r;injection r with r
 cases r;obtain⟨c,x,S,T,V,Z,K,u,B,E,g3,g4⟩:=fU (P:=P) b ty fr us (o+k * sz) 0 w cs s I (by omega) (lD hu);have n:Ev H w (H.aU b (.row ty o sz (els.take k++new++els.drop (k+new.length)))) c:=jI (by rw[hb];simp) S T V Z K (λz t0 A p=>by
  rw[s] at p;injection p with p
  injection p with L M N
  subst L M N;exact⟨u,_,B,E⟩)
 have g:(els.take k).length=k:=by rw[bX];omega
 refine⟨c,x,hQ J n K ⟨u,fr,B,by rw[E];exact I,?_,?_⟩,n⟩
 ·rw[E,aV,aV,g,gd]
  rcases fv els.length (k+new.length) with a4|wY
  ·have:els.length - (k+new.length)=0:=by omega
   rw[this,rM,dc];omega
  ·have:k+new.length+(els.length - (k+new.length))=els.length:=by omega
   rw[this];exact h3
 ·have l:∀j,c.cell? ⟨b,j,none⟩=u[j]?:=λj=>cell_of_row c b j u ty fr B
  have y:∀j,w.cell? ⟨b,j,none⟩=cs[j]?:=λj=>cell_of_row w b j cs ty fr s;have G:∀h:Nat,h<o+k * sz\/o+k * sz+us.length<=h->c.cell? ⟨b,h,none⟩=w.cell? ⟨b,h,none⟩:=λh f=>by rw[l,y];exact g4 h (by omega)
  have xz:∀(i:Nat) (el:List D),els[i]?=some el->(i<k\/k+new.length<=i)->el.length=sz/\bU c (H.aU b (.row ty o sz (els.take k++new++els.drop (k+new.length)))).others b (o+i * sz) el:=λi el a wZ=>by
   obtain⟨q1,q2⟩:=ca h4 i el a;refine⟨q1,?_⟩;obtain⟨vs,m,h6⟩:=cf q2;refine dD (bO n.kept _ m) λj v f=>?_;have a5:=cj m;have a0:j<sz:=by have:=(gI.1 f).1;omega
   rw[G _ ?_]
   ·exact h6 j v f
   ·rcases wZ with wZ|wZ
    ·left
     have:(i+1) * sz<=k * sz:=jl _ wZ;rw[dc] at this;omega
    ·right
     have:(k+new.length) * sz<=i * sz:=jl _ wZ;rw[dc] at this;omega
  refine dV λi el a=>?_;rcases fv i k with wZ|wZ
  ·rw[bE,kT (by omega),mP,aD wZ] at a
   exact xz i el a (.inl wZ)
  ·rcases fv i (k+new.length) with Yf|Yf
   ·rw[bE,mO (by omega),g,kT (by omega)] at a
    refine⟨hn el (eh a),?_⟩;have m:=fY sz (fX ((i - k) * sz) hu);rw[AI hn a] at m;refine dD (bO n.kept _ m) λj v f=>?_;rw[mP] at f;split at f
    ·rw[nn] at f
     rw[l,<-g3 _ v f];congr 1;have:k * sz+(i - k) * sz=i * sz:=by rw[<-dc];congr 1;omega
     omega
    ·cases f
   ·rw[mO (by rw[aV];omega),aV,g,nn] at a
    rw[show k+new.length+(i - (k+new.length))=i by omega] at a;exact xz i el a (.inr Yf)
def rU (P:Program) (H:aA) (t:TypeId) (x:D) (K:D->aA->Prop):Prop:=
 match cG P t,x with
 |some ⟨.slice e,_,_,_⟩,.os b o sz k n=>(match cG P e,H b with
  |some ⟨_,a,_,some c⟩,some (.row ty o' aEI els)=>c.length=sz/\a=sz/\aEI=sz/\o'=o/\c.all Value.oneCell'=true/\k<=els.length/\K (.val undef) (H.aU b (.row ty o sz (els.take k)))
  |_,_=>False)
 |_,_=>False
theorem GL {k:Nat}{els:List (List D)}(h:eF w (H.aU b (.row ty o sz els))):eF w (H.aU b (.row ty o sz (els.take k))):=λc y j=>by
 by_cases e:c=b
 ·subst e
  rw[aK] at j;injection j with j
  subst j;obtain⟨cs,g,n,p,u,r⟩:=h c _ (aK _ _ _);refine⟨cs,g,n,p,?_,dV λi el l=>?_⟩
  ·have:(els.take k).length * sz<=els.length * sz:=jl _ (by rw[bX];omega)
   omega
  ·rw[mP] at l
   split at l
   ·obtain⟨z,A⟩:=ca r i el l
    refine⟨z,?_⟩;obtain⟨K,v,x⟩:=cf A;refine dD (bO ⟨bh _,λf a _=>⟨?_,rfl⟩,λ_ _ _ g h=>⟨_,g,h,rfl⟩⟩ _ v) x;unfold aA.others at a ⊢;by_cases m:f=c
    ·subst m;rw[aK] at a;cases a
    ·rw[aJ m] at a ⊢;exact a
   ·cases l
 ·rw[aJ e] at j
  have s:=h c y (by rw[aJ e];exact j);have I:∀f,(H.aU b (.row ty o sz els)).others f->(H.aU b (.row ty o sz (els.take k))).others f:=λf a=>by
   unfold aA.others at a ⊢;by_cases m:f=b
   ·subst m;rw[aK] at a;cases a
   ·rw[aJ m] at a ⊢;exact a
  have kept:zT (H.aU b (.row ty o sz els)).others (H.aU b (.row ty o sz (els.take k))).others w w:=⟨bh _,λf a _=>⟨I f a,rfl⟩,λ_ _ _ g h=>⟨_,g,h,rfl⟩⟩;cases y with
  |row t2 M J B=>
   obtain⟨cs,g,n,p,u,r⟩:=s
   refine⟨cs,g,n,p,u,dV λi el l=>?_⟩
   obtain⟨z,A⟩:=ca r i el l
   refine⟨z,?_⟩
   obtain⟨K,v,x⟩:=cf A
   exact dD (bO kept _ v) x
  |map L=>
   obtain⟨G,E,n,p,u,r⟩:=s
   exact⟨G,E,n,p,fF kept _ u,r⟩
  |hid=>exact s
  |obj o=>exact s
theorem xp {f:World}{x y:cY}(h:Ev H w (H.aU b x) f):Ev H w (H.aU b y) f:=
 ⟨h.os,h.tape,h.output,h.size,λc i j=>by
  obtain⟨g,a⟩:=h.cM c i j;refine⟨g,?_⟩;by_cases e:c=b
  ·subst e;rw[aK] at a;cases a
  ·rw[aJ e] at a ⊢;exact a,h.shape⟩
theorem Pe {P:Program}(V:eF w H){ty:TypeId}{x:D}{v:Value}{K:D->aA->Prop}(h:rU P H t x K)(hx:D.is w H.others x v):
  ∃r d' p H',(Builtin.clear_ #[t] ty #[v]).run P w=.ok r p/\D.is p H'.others d' r/\eF p H'/\Ev H w H' p/\K d' H':=by
 unfold rU at h;split at h
 ·rename_i e _ _ _ b o sz k n hT
  split at h
  ·rename_i dE a9 a6 a j J f g hE Z
   obtain⟨E,rfl,rfl,rfl,R,hk,h⟩:=h;obtain⟨dA,iA,a1,a2,G⟩:=cZ hT;injection G with G
   cases dA <;> simp [iI] at G
   subst G;obtain⟨cs,fr,h1,T,h3,h4⟩:=V _ _ Z;simp only[D.is] at hx;obtain⟨A,c,rfl,hc,hA⟩:=hx;have M:(n=0\/A=none)->eF w (H.aU b (.row j J f (g.take k)))/\Ev H w (H.aU b (.row j J f (g.take k))) w:=λ_=>by
    have s:H.aU b (.row j J f g)=H:=funext λc=>by
     by_cases e:c=b
     ·subst e;rw[aK,Z]
     ·rw[aJ e]
    exact⟨GL (by rw[s];exact V),xp (x:=.row j J f g) (by rw[s];exact dr _ _)⟩
   by_cases hn:n=0
   ·subst hn
    obtain⟨q1,q2⟩:=M (.inl rfl);refine⟨undef,.val undef,w,_,?_,lN _,q1,q2,h⟩;cases A <;> simp [Builtin.clear_,bH a1] <;> rfl
   ·rcases hA with hA|⟨rfl,a7,t2,a8,I,a5⟩
    ·omega
    ·rw[h1] at I
     injection I with I
     injection I with b1 b2 b3
     subst b1 b2 b3;obtain⟨z,a0,B⟩:=sS hE rfl w;have a4:(Builtin.zeroCells z.cells n).toList=(List.replicate n a).flatten:=by
      apply np;intro i;have ir:z.cells.size=a.length:=by rw[<-B,kW]
      have N:∀(m i:Nat),((List.replicate m a).flatten)[i]?=if i<m * a.length then a[i % a.length]? else none:=by
       intro m
       induction m with
       |zero=>intro i;simp
       |succ m ih=>
        intro i
        rw[List.replicate_succ,tM]
        by_cases h:i<a.length
        ·rw[kT h,aD (by rw[kH];omega),zP h]
        ·rw[mO (by omega),ih (i - a.length),kH]
         have:(i - a.length) % a.length=i % a.length:=(Nat.mod_eq_sub_mod (by omega)).symm
         rw[this]
         by_cases T:i<m * a.length+a.length
         ·rw[aD (by omega),aD T]
         ·rw[aC (by omega),aC T]
      rw[N,Array.getElem?_toList];unfold Builtin.zeroCells;rw[ir,Array.getElem?_map,Array.getElem?_range];split
      ·rename_i h
       have hp:0<a.length:=by
        rcases wO a.length with h0|h0
        ·rw[h0] at h;simp at h
        ·exact h0
       have u:i % z.cells.size<z.cells.size:=Nat.mod_lt _ (by omega);simp only[gJ];rw[<-B,kW,Array.getElem?_toList,nr z.cells _ u,Array.getElem?_eq_getElem u]
      ·rfl
     have S:((List.replicate n (a.map D.val)).flatten:List D)=(List.replicate n a).flatten.map .val:=by rw[List.map_flatten,List.map_replicate]
     have L:∀v∈(List.replicate n a).flatten,v.oneCell'=true:=λv hv=>by
      obtain⟨l,hl,y⟩:=List.mem_flatten.1 hv;rw[List.eq_of_mem_replicate hl] at y;exact(dK.1 R) v y
     have w9:((List.replicate n a).flatten).length=(List.replicate n (a.map D.val)).length * f:=by rw[List.length_flatten,List.map_replicate,List.sum_replicate_nat,wJ,E]
     obtain⟨p,g1,g2,g3⟩:=PS (P:=P) V (k:=k) (new:=List.replicate n (a.map .val)) (us:=(List.replicate n a).flatten) Z h1 (λe he=>by rw[List.eq_of_mem_replicate he,aS,E]) (by rw[S];exact oL _ L) w9 hk (by
      rw[w9,wJ];have:(k+n) * f<=(k+c) * f:=jl _ (by omega);rw[dc] at this;omega)
     refine⟨undef,.val undef,p,_,?_,lN _,GL (k:=k) g2 |> λhh=>?_,xp g3,h⟩
     ·obtain⟨m,rfl⟩:∃m,n=m+1:=⟨n - 1,by omega⟩
      simp only[Builtin.clear_,rB,lk,Sem.run_bind,bH a1,Result.andThen,a0,a4,g1,Sem.run_pure];rfl
     ·have:(g.take k++List.replicate n (a.map D.val)++g.drop (k+(List.replicate n (a.map D.val)).length)).take k=g.take k:=by
       rw[bE,uh (by rw[bX];omega),wT,Nat.min_self]
      rwa[this] at hh
  ·exact h.elim
 ·exact h.elim
def oe (P:Program) (H:aA) (t:TypeId) (x y:D) (K:D->aA->Prop):Prop:=False
theorem Pg {P:Program}(e:eF w H){xt ty:TypeId}{x y:D}{v u:Value}{K:D->aA->Prop}(h:oe P H t x y K)(hx:D.is w H.others x v)(hy:D.is w H.others y u):
  ∃r c a H',(Builtin.copy_ #[t,xt] ty #[v,u]).run P w=.ok r a/\D.is a H'.others c r/\eF a H'/\Ev H w H' a/\K c H':=by
 unfold oe at h;exact h.elim
end Go.Proofs.YtffgfafbffdgaaaGreatDoor
