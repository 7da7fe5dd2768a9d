/- Lemmas and contracts of functions, several texts in one. -/
import Derived.Test.YtffgfafbffdgaaaGreatDoorR01
import Derived.Laws.Append
set_option maxRecDepth 100000
set_option maxHeartbeats 4000000
set_option linter.all false
namespace Go.Proofs.YtffgfafbffdgaaaGreatDoor
open Go.RowKit
variable {P:Program}{w w':World}{t aE7:TypeId}{x ix d:D}{a v u:Value}{b sz off f o k len:Nat}{H:aA}{vs:Array (Nat×Value)}{ds:List (Nat×D)}
theorem kN {op:BinOp}{x y:Operand}{b:Value}(h:(∀c,a≠ .agg c)/\a≠ .nilIface\/(∀c,b≠ .agg c)/\b≠ .nilIface):(eqGuard op t x y a b).run P w=.ok () w:=by
 rcases h with⟨e,g⟩|⟨e,g⟩
 ·cases a <;> first|exact absurd rfl g|exact absurd rfl (e _)|(unfold eqGuard;split <;> rfl)
 ·cases b <;> first|exact absurd rfl g|exact absurd rfl (e _)|(unfold eqGuard;split <;> first|rfl|(cases a <;> rfl))
theorem Pd {S:Nat->Prop}{op:BinOp}{y:D}{b:Value}{p q:Operand}{K:D->Prop}(h:od P op t x y K)(hx:D.is w S x a)(hy:D.is w S y b):
  ∃u,(do eqGuard op t p q a b;binOp op t a b).run P w=.ok u w/\K (.val u):=by
 unfold od at h;split at h
 ·rename_i k g R e
  have s:=cQ hx;have j:=cQ hy;subst s j;have l:(eqGuard op t p q (.int k g) (.int R e)).run P w=.ok () w:=kN (.inl (by simp));simp only[Sem.run_bind,l,Result.andThen];split at h
  ·have m:¬e<0:=by omega
   refine⟨_,?_,h.2⟩;simp [binOp,Op.shift,m]
  ·have m:¬e<0:=by omega
   refine⟨_,?_,h.2⟩;simp [binOp,Op.shift,m]
  ·obtain⟨rfl,h⟩:=h
   exact Pb h
 ·rename_i g e
  have s:=cQ hx;have j:=cQ hy;subst s j;have l:(eqGuard op t p q (.string g) (.string e)).run P w=.ok () w:=kN (.inl (by simp));simp only[Sem.run_bind,l,Result.andThen];exact Pc h
 ·rename_i g e
  have s:=cQ hx;have j:=cQ hy;subst s j;have l:(eqGuard op t p q (.bool g) (.bool e)).run P w=.ok () w:=kN (.inl (by simp));simp only[Sem.run_bind,l,Result.andThen];obtain⟨m,h⟩:=h;have G:P.underlying t=some .bool:=by
   unfold fH at m;split at m
   ·rename_i E
    obtain⟨d,i,z,A,B⟩:=cZ E;injection B with B
    cases d <;> simp [iI] at B
    exact z
   ·exact m.elim
  have J:(Op.equal t (.bool g) (.bool e)).run P w=.ok (g==e) w:=LM 9999 G g e;have I:(g==e)=decide (g=e):=by cases g <;> cases e <;> rfl
  have L:(!decide (g=e))=decide (g≠e):=by cases g <;> cases e <;> rfl
  split at h
  ·exact⟨.bool (g==e),by simp [binOp,J,Result.andThen],by rw[I];exact h⟩
  ·exact⟨.bool (!(g==e)),by simp [binOp,J,Result.andThen],by rw[I,L];exact h⟩
  ·exact h.elim
 ·split at h
  ·rename_i T r M
   simp only[D.is] at hx hy;obtain⟨vs,rfl,N⟩:=hx;obtain⟨V,rfl,G⟩:=hy;obtain⟨z,A⟩:=h.1 _ _ _ _ _ w S op p q M N G;have h:=h.2;simp only[Sem.run_bind,z,Result.andThen];unfold ic at h;split at h
   ·exact⟨.bool r,by simp [binOp,A,Result.andThen],h⟩
   ·exact⟨.bool (!r),by simp [binOp,A,Result.andThen],h⟩
   ·exact h.elim
  ·exact h.elim
 ·have j:=cQ hy
  subst j;have l:(eqGuard op t p q a (.pointer none)).run P w=.ok () w:=kN (.inr (by simp));simp only[Sem.run_bind,l,Result.andThen];exact Lu h hx
 ·rename_i Z y' n c
  have j:=cQ hy;subst j;have l:(eqGuard op t p q a (.slice none n c)).run P w=.ok () w:=kN (.inr (by simp));simp only[Sem.run_bind,l,Result.andThen];exact Lv h hx
 ·have j:=cQ hy
  subst j;have l:(eqGuard op t p q a (.map none)).run P w=.ok () w:=kN (.inr (by simp));simp only[Sem.run_bind,l,Result.andThen];exact Lt h hx
 ·exact h.elim
def Bj (op:UnOp) (x:D) (K:D->Prop):Prop:=
 match op,x with
 | .neg,.val (.int k n)=>K (.val (.int k (k.wrap (0 - n))))
 | .xor,.val (.int k n)=>K (.val (.int k (bits .xor k (if k.signed then -1 else k.max) n)))
 | .not,.val (.bool b)=>K (.val (.bool (!b)))
 |_,_=>False
theorem Tu {S:Nat->Prop}{op:UnOp}{K:D->Prop}(h:Bj op x K)(hx:D.is w S x v):∃u,(Op.unary op v).run P w=.ok u w/\K (.val u):=by
 unfold Bj at h;split at h
 ·have e:=cQ hx;subst e;exact⟨_,rfl,h⟩
 ·have e:=cQ hx;subst e;exact⟨_,rfl,h⟩
 ·have e:=cQ hx;subst e;exact⟨_,rfl,h⟩
 ·exact h.elim
def gy (H:aA) (sz:Nat) (x:D) (K:List (List D)->Prop):Prop:=
 match x with
 | .seq e c=>e=sz/\K c
 | .os b o e k n=>(match H b with
  |some (.row _ h g c)=>h=o/\g=e/\e=sz/\k+n<=c.length/\K ((c.drop k).take n)
  |_=>False)
 | .val (.slice none 0 _)=>K []
 | .Ep=>K []
 |_=>False
theorem pz (y:eF w H){K:List (List D)->Prop}(h:gy H sz x K)(hx:D.is w H.others x v):
  ∃els A c,K els/\v=.slice A els.length c/\els.length<=c/\(els=[]\/∃b o,A=some ⟨b,o,none⟩/\b<w.heap.size/\cK w H.others b sz o els):=by
 unfold gy at h;split at h
 ·obtain⟨rfl,h⟩:=h
  simp only[D.is] at hx;obtain⟨A,c,rfl,j,g⟩:=hx;refine⟨_,A,c,h,rfl,j,?_⟩;rcases g with g|⟨b,o,p,_,r,s⟩
  ·exact .inl g
  ·exact .inr ⟨b,o,p,r,s⟩
 ·split at h
  ·rename_i z
   obtain⟨rfl,rfl,rfl,i,h⟩:=h;simp only[D.is] at hx;obtain⟨A,c,rfl,j,g⟩:=hx;obtain⟨cs,E,p,r,s,B⟩:=y _ _ z;have m:∀(l:List (List D)) (k n:Nat),k+n<=l.length->((l.drop k).take n).length=n:=λl k n h=>by rw[bX,gd];omega
   refine⟨_,A,c,h,by rw[m _ _ _ i],by rw[m _ _ _ i];exact j,?_⟩;rcases g with g|⟨g,_⟩
   ·left
    apply cy;rw[m _ _ _ i];omega
   ·exact .inr ⟨_,_,g,y.lt z,ko (mn B _) _⟩
  ·exact h.elim
 ·have e:=cQ hx
  subst e;exact⟨[],_,_,h,rfl,jY _,.inl rfl⟩
 ·simp only[D.is] at hx
  obtain⟨A,rfl⟩:=hx;exact⟨[],_,_,h,rfl,jY _,.inl rfl⟩
 ·exact h.elim
def bD (c:UInt8):List D:=[.val (.int .u8 (c.toNat:Int))]
def byteOf:List D->Option UInt8
 |[.val (.int .u8 n)]=>some (UInt8.ofNat n.toNat)
 |_=>none
def bytesOf:List (List D)->Option (List UInt8)
 |[]=>some []
 |e::els=>match byteOf e,bytesOf els with
  |some c,some l=>some (c::l)
  |_,_=>none
theorem Kb (c:UInt8):byteOf (bD c)=some c:=by simp [byteOf,bD]
theorem ru (l:List UInt8):bytesOf (l.map bD)=some l:=by
 induction l with
 |nil=>rfl
 |cons c l e=>simp [bytesOf,Kb,e]
theorem FC {e:List D}{c:UInt8}(h:byteOf e=some c):∃n,e=[.val (.int .u8 n)]/\c=UInt8.ofNat n.toNat:=by
 unfold byteOf at h;split at h
 ·injection h with h;exact⟨_,rfl,h.symm⟩
 ·cases h
theorem vG {S:Nat->Prop}:∀{els:List (List D)}{o:Nat}{l:List UInt8},bytesOf els=some l->cK w S b 1 o els->
  ∃g:List Int,g.length=els.length/\l=g.map (λn=>UInt8.ofNat n.toNat)/\∀i,i<g.length->w.cell? ⟨b,o+i,none⟩=some (.int .u8 (g.getD i 0))
 |[],_,l,h,_=>by simp [bytesOf] at h;subst h;exact⟨[],rfl,rfl,λi hi=>by simp at hi⟩
 |e::els,o,l,h,hr=>by
  simp only[bytesOf] at h;split at h
  ·rename_i c s h1 h2
   injection h with h
   subst h;simp only[cK] at hr;obtain⟨n,rfl,rfl⟩:=FC h1;obtain⟨g,m,p,h5⟩:=vG h2 hr.2.2;have j:=hr.2.1;simp only[bU,D.is] at j;obtain⟨⟨u,r,_,rfl⟩,_⟩:=j;refine⟨n::g,by simp [m],by simp [p],λi hi=>?_⟩;cases i with
   |zero=>exact r
   |succ i=>rw[show o+(i+1)=o+1+i by omega];simpa using h5 i (by simpa using hi)
  ·cases h
def wX (P:Program) (H:aA) (src dst:TypeId) (x:D) (K:D->Prop):Prop:=
 match cG P src,cG P dst with
 |some A,some B=>
  (match A.d,B.d,x with
  |_,.int k,.val (.int _ n)=>K (.val (.int k (k.wrap n)))
  |_,.string,.val (.string s)=>K (.val (.string s))
  | .slice e,.string,x=>(match cG P e with
   |some ⟨.int .u8,_,_,_⟩=>gy H 1 x λc=>match bytesOf c with
    |some l=>K (.val (.string (dg l)))
    |none=>False
   |_=>False)
  |_,_,_=>False)
 |_,_=>False
theorem Tg (S:eF w H){src dst:TypeId}{K:D->Prop}(h:wX P H src dst x K)(hx:D.is w H.others x v):∃u,(convert src dst v).run P w=.ok u w/\K (.val u):=by
 unfold wX at h;split at h
 ·rename_i A B M N
  obtain⟨I,iA,n,V,rfl⟩:=cZ M;obtain⟨E,iB,p,b2,rfl⟩:=cZ N;simp only at h;split at h
  ·rename_i g
   have e:=cQ hx;subst e;cases E <;> simp [iI] at g
   subst g;refine⟨_,?_,h⟩;simp [convert,bH n,bH p,Conv.intToInt]
  ·rename_i g
   have e:=cQ hx;subst e;cases E <;> simp [iI] at g
   refine⟨_,?_,h⟩;cases I <;> simp [convert,bH n,bH p]
  ·rename_i e' g J _
   cases E <;> simp [iI] at J
   cases I <;> simp [iI] at g
   subst g;split at h
   ·rename_i R
    obtain⟨dE,iE,z,c2,m⟩:=cZ R;injection m with m
    cases dE <;> simp [iI] at m
    subst m;obtain⟨j,A,c,r,rfl,Z,y⟩:=pz S h hx;cases hl:bytesOf j with
    |none=>rw[hl] at r;exact r.elim
    |some l=>
     rw[hl] at r
     refine⟨_,?_,r⟩
     rcases y with rfl|⟨b,o,rfl,_,T⟩
     ·simp [bytesOf] at hl
      subst hl
      rcases A with _|⟨b,o,sp⟩
      ·rw[run_convert_bytes_nil w src _ n z _ _ dst p];rfl
      ·rw[run_convert_bytes_string w src dst _ _ _ c n z p,dX,run_bytesToString w _ _ c [] (by simp [loadCells,loadCellsFrom])]
       rfl
     ·obtain⟨s,h1,L,m⟩:=vG hl T
      rw[run_convert_bytes_arg w src _ n z b o j.length c s (by omega) (λi hi=>m i (by omega)) dst p]
      have G:s.take j.length=s:=bK (by omega)
      try rw[G]
      have:strOfNums s=dg l:=by
       rw[L];simp only[strOfNums,dg]
      rw[this]
   ·exact h.elim
  ·exact h.elim
 ·exact h.elim
def jw (P:Program) (t:TypeId) (cs:List D) (off:Nat) (K:D->Prop):Prop:=
 match cG P t with
 |some T=>if T.d.agg then K (.agg ((cs.drop off).take T.size)) else (match cs[off]? with
  |some d=>K d
  |none=>False)
 |none=>False
theorem Cc {S:Nat->Prop}{cs:List D}{vs:List Value}{K:D->Prop}(h:jw P t cs off K)(hx:aW w S cs vs):∃u d,(Go.part t ⟨vs⟩ off).run P w=.ok u w/\D.is w S d u/\K d:=by
 unfold jw at h;split at h
 ·rename_i T e
  split at h
  ·rename_i c
   refine⟨.agg ((⟨vs⟩:Array Value).extract off (off+T.size)),_,?_,?_,h⟩
   ·unfold Go.part
    simp only[Sem.run_bind,sr e,c,Result.andThen,dN,ek e];rfl
   ·simp only[D.is]
    exact⟨((vs.drop off).take T.size),by simp [List.extract_eq_take_drop,Nat.add_sub_cancel_left],fY _ (fX _ hx)⟩
  ·rename_i c
   split at h
   ·rename_i d j
    obtain⟨v,h1,_,g⟩:=vJ hx off d j;refine⟨v,d,?_,g,h⟩;have i:(⟨vs⟩:Array Value)[off]?=some v:=by simpa using h1
    unfold Go.part;simp only[Sem.run_bind,sr e,c,Result.andThen,i];rfl
   ·exact h.elim
 ·exact h.elim
def fieldsOf (P:Program) (t:TypeId):List (Nat×TypeId):=
 match cG P t with
 |some ⟨.struct fs,_,_,_⟩=>fs
 |_=>[]
theorem uA {j:TypeId}(h:(fieldsOf P t)[f]?=some (off,j)):∃fs c,P.underlying t=some (.struct fs)/\fs[f]?=some c/\c.offset=off/\c.type=j:=by
 unfold fieldsOf at h;split at h
 ·rename_i m
  obtain⟨d,i,l,n,e⟩:=cZ m;injection e with e
  cases d <;> simp [iI] at e
  rename_i g;subst e;rw[bg] at h;cases hf:g.toList[f]? with
  |none=>rw[hf] at h;simp at h
  |some c=>
   rw[hf] at h
   simp at h
   exact⟨_,c,l,by simpa using hf,h.1,h.2⟩
 ·simp at h
def gU (P:Program) (t:TypeId) (x:D) (f:Nat) (K:D->Prop):Prop:=
 match x,(fieldsOf P t)[f]? with
 | .agg cs,some (off,ft)=>jw P ft cs off K
 |_,_=>False
theorem II {S:Nat->Prop}{K:D->Prop}(h:gU P t x f K)(hx:D.is w S x v):∃u d,(Instr.field t v f).run P w=.ok u w/\D.is w S d u/\K d:=by
 unfold gU at h;split at h
 ·rename_i cs off n m
  obtain⟨fs,c,e,g,rfl,rfl⟩:=uA m;simp only[D.is] at hx;obtain⟨vs,rfl,hx⟩:=hx;obtain⟨u,d,i,j,l⟩:=Cc h hx;refine⟨u,d,?_,j,l⟩;unfold Instr.field;simp only[Sem.run_bind,bH e,Result.andThen,g,asAgg,Sem.run_pure];exact i
 ·exact h.elim
def B6 (P:Program) (t:TypeId) (x:D) (f:Nat) (K:D->Prop):Prop:=
 match (fieldsOf P t)[f]? with
 |some (off,c)=>(match cG P c with
  |some T=>T.size≠0/\(match x with
   | .ep b o sz i k=>K (.ep b o sz i (k+off))
   | .rp cs=>K (.rp (cs.drop off))
   |_=>False)
  |none=>False)
 |none=>False
theorem Tk {S:Nat->Prop}{K:D->Prop}(h:B6 P t x f K)(hx:D.is w S x v):∃u d,(Instr.fieldAt t v f).run P w=.ok u w/\D.is w S d u/\K d:=by
 unfold B6 at h;split at h
 ·rename_i off s p
  obtain⟨fs,c,g,i,rfl,rfl⟩:=uA p;split at h
  ·rename_i T n
   obtain⟨r,h⟩:=h;have e:∀a:Addr,(Instr.fieldAt t (.pointer (some a)) f).run P w=.ok (.pointer (some (a.add c.offset))) w:=λa=>by
    unfold Instr.fieldAt;simp only[Sem.run_bind,bH g,Result.andThen,i,Instr.sureAddr,Sem.run_pure,fieldPlace,ek n];rw[aC r];rfl
   split at h
   ·simp only[D.is] at hx
    subst hx;refine⟨_,_,e _,?_,h⟩;simp only[D.is];rw[Addr.add_lit,rK]
   ·simp only[D.is] at hx
    obtain⟨b,o,rfl,j,l,m⟩:=hx;refine⟨_,_,e _,?_,h⟩;simp only[D.is];exact⟨b,o+c.offset,by rw[Addr.add_lit],j,l,iQ m _⟩
   ·exact h.elim
  ·exact h.elim
 ·exact h.elim
def B7 (P:Program) (H:aA) (t:TypeId) (x ix:D) (K:D->Prop):Prop:=
 match ix,cG P t with
 | .val (.int _ i),some T=>(match T.d with
  | .slice e=>(match cG P e with
   |some E=>(match x with
    | .seq sz c=>sz=E.size/\0<=i/\(match c[i.toNat]? with
     |some el=>K (.rp el)
     |none=>False)
    | .os b o sz k n=>sz=E.size/\0<=i/\i<(n:Int)/\K (.ep b o sz (k+i.toNat) 0)
    |_=>False)
   |none=>False)
  | .array n e=>(match cG P e with
   |some E=>0<=i/\i<(n:Int)/\(match x with
    | .ep b o sz j k=>K (.ep b o sz j (k+i.toNat * E.size))
    | .rp cs=>K (.rp (cs.drop (i.toNat * E.size)))
    |_=>False)
   |none=>False)
  |_=>False)
 |_,_=>False
theorem Tl {K:D->Prop}(h:B7 P H t x ix K)(hx:D.is w H.others x v)(hi:D.is w H.others ix u):∃r d,(Instr.indexAt t v u).run P w=.ok r w/\D.is w H.others d r/\K d:=by
 unfold B7 at h;split at h
 ·rename_i k i T M
  have e:=cQ hi;subst e;obtain⟨d,N,J,R,rfl⟩:=cZ M;cases d <;> simp only[iI] at h <;> try exact h.elim
  ·rename_i e
   split at h
   ·rename_i E G
    have g:∀(a:Addr) (n c:Nat),0<=i->i<(n:Int)->(Instr.indexAt t (.slice (some a) n c) (.int k i)).run P w=.ok (.pointer (some (a.add (i.toNat * E.size)))) w:=λa n c j z=>by
     unfold Instr.indexAt;simp only[Sem.run_bind,asIntOf,Sem.run_pure,Result.andThen,bH J];rw[aD ⟨j,z⟩];simp only[Sem.run_bind,ek G,Result.andThen,Sem.run_pure]
    split at h
    ·rename_i sz y
     obtain⟨rfl,j,h⟩:=h;split at h
     ·rename_i el p
      simp only[D.is] at hx;obtain⟨A,c,rfl,s,l⟩:=hx;have I:i.toNat<y.length:=(gI.1 p).1;rcases l with l|⟨b,o,rfl,m,B,L⟩
      ·subst l;simp at I
      ·refine⟨_,_,g _ _ _ j (by omega),?_,h⟩
       simp only[D.is];exact⟨b,o+i.toNat * E.size,by rw[Addr.add_lit],m,B,(ca L _ _ p).2⟩
     ·exact h.elim
    ·rename_i b o sz S n
     obtain⟨rfl,j,s,h⟩:=h;simp only[D.is] at hx;obtain⟨A,c,rfl,l,m⟩:=hx;rcases m with m|⟨rfl,_⟩
     ·omega
     ·refine⟨_,_,g _ _ _ j s,?_,h⟩
      simp only[D.is];rw[Addr.add_lit,dc];simp only[rM,rK]
    ·exact h.elim
   ·exact h.elim
  ·rename_i n e
   split at h
   ·rename_i E G
    obtain⟨j,s,h⟩:=h;have g:∀(a:Addr),(Instr.indexAt t (.pointer (some a)) (.int k i)).run P w=.ok (.pointer (some (a.add (i.toNat * E.size)))) w:=λa=>by
     unfold Instr.indexAt;simp only[Sem.run_bind,asIntOf,Sem.run_pure,Result.andThen,bH J,Instr.sureAddr];rw[aD ⟨j,s⟩];simp only[Sem.run_bind,ek G,Result.andThen,Sem.run_pure]
    split at h
    ·simp only[D.is] at hx
     subst hx;refine⟨_,_,g _,?_,h⟩;simp only[D.is];rw[Addr.add_lit,rK]
    ·simp only[D.is] at hx
     obtain⟨b,o,rfl,l,m,B⟩:=hx;refine⟨_,_,g _,?_,h⟩;simp only[D.is];exact⟨b,_,by rw[Addr.add_lit],l,m,iQ B _⟩
    ·exact h.elim
   ·exact h.elim
 ·exact h.elim
def B8 (P:Program) (t:TypeId) (x ix:D) (K:D->Prop):Prop:=
 match ix,cG P t with
 | .val (.int _ i),some T=>(match T.d,x with
  | .array n e,.agg cs=>(match cG P e with
   |some E=>0<=i/\i<(n:Int)/\jw P e cs (i.toNat * E.size) K
   |none=>False)
  | .string,.val (.string s)=>0<=i/\(match s.data.toList[i.toNat]? with
   |some c=>K (.val (.int .u8 (c.toNat:Int)))
   |none=>False)
  |_,_=>False)
 |_,_=>False
theorem Tm {S:Nat->Prop}{K:D->Prop}(h:B8 P t x ix K)(hx:D.is w S x v)(hi:D.is w S ix u):∃r d,(Instr.index t v u).run P w=.ok r w/\D.is w S d r/\K d:=by
 unfold B8 at h;split at h
 ·rename_i k i T J
  have e:=cQ hi;subst e;obtain⟨d,L,y,M,rfl⟩:=cZ J;simp only at h;split at h
  ·rename_i n e cs j
   cases d <;> simp [iI] at j
   obtain⟨rfl,rfl⟩:=j;split at h
   ·rename_i E I
    obtain⟨m,p,h⟩:=h;simp only[D.is] at hx;obtain⟨vs,rfl,hx⟩:=hx;obtain⟨r,d,A,B,G⟩:=Cc h hx;refine⟨r,d,?_,B,G⟩;unfold Instr.index;simp only[Sem.run_bind,asIntOf,Sem.run_pure,Result.andThen,bH y];rw[aD ⟨m,p⟩];simp only[Sem.run_bind,ek I,Result.andThen];exact A
   ·exact h.elim
  ·rename_i s j
   cases d <;> simp [iI] at j
   obtain⟨m,h⟩:=h;have e:=cQ hx;subst e;split at h
   ·rename_i c z
    refine⟨_,_,?_,lN _,h⟩;have p:s[i.toNat]?=some c:=by
     have g:=(gI.1 z).1;have l:i.toNat<s.size:=by rw[kW] at g;exact g
     have:=(gI.1 z).2;rw[getElem?_pos s i.toNat l,<-this];rfl
    unfold Instr.index;simp only[Sem.run_bind,asIntOf,Sem.run_pure,Result.andThen,bH y];rw[aD m,p];rfl
   ·exact h.elim
  ·exact h.elim
 ·exact h.elim
def B9 (c:Bool) (sz:Nat) (cs:List D) (K:D->Prop):Prop:=
 if c then (if cs.length=sz then K (.agg cs) else sz<=cs.length/\K (.agg (cs.take sz)))
 else match cs with
  |d::_=>K d
  |[]=>False
theorem Jn {S:Nat->Prop}{T:Ti}(i:cG P t=some T){cs:List D}{K:D->Prop}(h:B9 T.d.agg T.size cs K)(hc:bU w S b o cs):
  ∃v d,(loadVar t ⟨b,o,none⟩).run P w=.ok v w/\D.is w S d v/\K d:=by
 have agg:∀(ds:List D),ds.length=T.size->bU w S b o ds->T.d.agg=true->K (.agg ds)->∃v d,(loadVar t ⟨b,o,none⟩).run P w=.ok v w/\D.is w S d v/\K d:=by
  intro ds m l c r;obtain⟨vs,e,g⟩:=cf l;have n:=cj e;refine⟨.agg ⟨vs⟩,.agg ds,?_,?_,r⟩
  ·unfold loadVar
   simp only[Sem.run_bind,sr i,c,Result.andThen,dN,ek i];have:=run_loadCells_list (P:=P) w ⟨b,o,none⟩ vs (λj v p=>by rw[Addr.add_lit];exact g j v p);rw[n,m] at this;rw[this];rfl
  ·simp only[D.is];exact⟨vs,rfl,e⟩
 unfold B9 at h;split at h
 ·rename_i c
  split at h
  ·rename_i m
   exact agg cs m hc c h
  ·exact agg _ (by rw[bX];omega) (qU hc _) c h.2
 ·rename_i c
  split at h
  ·rename_i d ds
   simp only[bU] at hc;obtain⟨⟨u,e,_,g⟩,_⟩:=hc;refine⟨u,d,?_,g,h⟩;unfold loadVar;simp only[Sem.run_bind,sr i,c,Result.andThen];simp [e]
  ·exact h.elim
def sL (P:Program) (H:aA) (t:TypeId) (x:D) (K:D->Prop):Prop:=
 match cG P t with
 |some T=>(match x with
  | .rp cs=>B9 T.d.agg T.size cs K
  | .ep b o sz i k=>(match H b with
   |some (.row _ g e c)=>g=o/\e=sz/\(match c[i]? with
    |some el=>B9 T.d.agg T.size (el.drop k) K
    |none=>False)
   |_=>False)
  |_=>False)
 |none=>False
theorem Jo (y:eF w H){K:D->Prop}(h:sL P H t x K)(hx:D.is w H.others x v):∃u d,(Instr.loadAt t v).run P w=.ok u w/\D.is w H.others d u/\K d:=by
 unfold sL at h;split at h
 ·rename_i T m
  split at h
  ·simp only[D.is] at hx
   obtain⟨b,o,rfl,_,_,c⟩:=hx;obtain⟨u,d,g,j,l⟩:=Jn m h c;refine⟨u,d,?_,j,l⟩;simp only[Instr.loadAt,Instr.sureAddr,Sem.run_bind,Sem.run_pure,Result.andThen];exact g
  ·rename_i b o sz i k
   split at h
   ·rename_i z
    obtain⟨rfl,rfl,h⟩:=h;split at h
    ·rename_i el e
     simp only[D.is] at hx;subst hx;obtain⟨cs,A,g,j,l,n⟩:=y _ _ z;have c:=iQ (ca n i el e).2 k;obtain⟨u,d,p,r,s⟩:=Jn m h c;refine⟨u,d,?_,r,s⟩;simp only[Instr.loadAt,Instr.sureAddr,Sem.run_bind,Sem.run_pure,Result.andThen];exact p
    ·exact h.elim
   ·exact h.elim
  ·exact h.elim
 ·exact h.elim
theorem jI {x:cY}(hb:H b≠none)(e1:w'.os=w.os)(e2:w'.tape=w.tape)(e3:w'.output=w.output)(e4:w'.heap.size=w.heap.size)(ho:∀c,c≠b->w'.heap[c]?=w.heap[c]?)
  (hs:∀cs t fr,w.heap[b]?=some (Obj.cells cs t fr)->∃nN De,w'.heap[b]?=some (Obj.cells nN t De)/\nN.size=cs.size):Ev H w (H.aU b x) w' where
 os:=e1
 tape:=e2
 output:=e3
 size:=Nat.le_of_eq e4.symm
 cM:=λc hc hn=>by
  have hne:c≠b:=λe=>hb (e▸hn);exact⟨ho c hne,by rw[aJ hne];exact hn⟩
 shape:=λc cs t fr hc=>by
  by_cases e:c=b
  ·subst e;exact hs cs t fr hc
  ·exact⟨cs,fr,(ho c e).trans hc,rfl⟩
theorem hQ {x:cY}(h:eF w H)(i:Ev H w (H.aU b x) w')(ho:∀c,c≠b->w'.heap[c]?=w.heap[c]?)(hx:jb w' (H.aU b x) b x):eF w' (H.aU b x):=λc y g=>by
 by_cases e:c=b
 ·subst e
  rw[aK] at g;injection g with g
  subst g;exact hx
 ·rw[aJ e] at g
  exact i.jb (ho c e) (h c y g)
def jx (el:List D) (k:Nat) (c:List D):List D:=el.take k++c++el.drop (k+c.length)
theorem EU {el c:List D}(h:k+c.length<=el.length):(jx el k c).length=el.length:=by simp [jx];omega
def BT (P:Program) (H:aA) (t:TypeId) (x d:D) (K:aA->Prop):Prop:=
 match cG P t,x,d.cells with
 |some T,.ep b o sz i k,some c=>c.length=T.size/\(match H b with
  |some (.row j h g e)=>h=o/\g=sz/\(match e[i]? with
   |some el=>k+c.length<=el.length/\K (H.aU b (.row j o sz (e.set i (jx el k c))))
   |none=>False)
  |_=>False)
 |_,_,_=>False
theorem vg {i j:Nat}(h:i<j)(hk:k<sz):i * sz+k<j * sz:=by
 have:(i+1) * sz<=j * sz:=jl _ h;rw[dc] at this;omega
theorem Tt (hH:eF w H){K:aA->Prop}(h:BT P H t x d K)(hx:D.is w H.others x v)(hd:D.is w H.others d u):
  ∃w' H',(Instr.storeAt t v u).run P w=.ok () w'/\eF w' H'/\Ev H w H' w'/\K H':=by
 unfold BT at h;split at h
 ·rename_i T b o sz i k c hT hc
  obtain⟨ir,h⟩:=h;split at h
  ·rename_i S s g n hb
   obtain⟨rfl,rfl,h⟩:=h;split at h
   ·rename_i el G
    obtain⟨aM,h⟩:=h;simp only[D.is] at hx;subst hx;have hu:=D.vK hd hc;have w9:=cj hu;have ac:u.cells.toList.length=u.cells.size:=kW;obtain⟨cs,J,h1,h2,h3,h4⟩:=hH _ _ hb;obtain⟨a4,a5⟩:=ca h4 i el G;have A:i<n.length:=(gI.1 G).1;have Z:s+i * g+k+0+u.cells.toList.length<=cs.size:=by
     have:(i+1) * g<=n.length * g:=jl _ A;rw[dc] at this;omega
    obtain⟨w',V,e1,e2,e3,e4,ho,R,g1,g2,g3,g4⟩:=fU (P:=P) b S J u.cells.toList (s+i * g+k) 0 w cs h1 h2 Z (lD hu);have B:Ev H w (H.aU b (.row S s g (n.set i (jx el k c)))) w':=jI (by rw[hb];simp) e1 e2 e3 e4 ho (λaa t0 ab L=>by
     rw[h1] at L;injection L with L
     injection L with a1 a2 a3
     subst a1 a2 a3;exact⟨R,_,g1,g2⟩)
    refine⟨w',_,?_,hQ hH B ho ⟨R,J,g1,by rw[g2];exact h2,by rw[mA,g2];exact h3,?_⟩,B,h⟩
    ·simp only[Instr.storeAt,Instr.sureAddr,Sem.run_bind,Sem.run_pure,Result.andThen,storeVar,ek hT]
     have:¬u.cells.size≠T.size:=by
      have:u.cells.size=u.cells.toList.length:=by simp
      omega
     rw[aC this];exact V
    ·have z:∀j,w'.cell? ⟨b,j,none⟩=R[j]?:=λj=>cell_of_row w' b j R S J g1
     have a0:∀j,w.cell? ⟨b,j,none⟩=cs[j]?:=λj=>cell_of_row w b j cs S J h1;have r:∀y:Nat,y<s+i * g+k\/s+i * g+k+c.length<=y->w'.cell? ⟨b,y,none⟩=w.cell? ⟨b,y,none⟩:=λy m=>by
      rw[z,a0];exact g4 y (by omega)
     refine dV λI a6 l=>?_;rw[zO] at l;by_cases e:i=I
     ·subst e
      rw[aD rfl] at l;rw[aD A] at l;injection l with l
      subst l;refine⟨by rw[EU aM];exact a4,?_⟩;obtain⟨vs,M,N⟩:=cf a5;have a9:=cj M;have E:=bO B.kept _ M;have a8:=bO B.kept _ hu;refine dD (vs:=vs.take k++u.cells.toList++vs.drop (k+c.length)) (cg (cg (fY k E) a8) (fX _ E)) λj v m=>?_;rcases fv j k with L2|L2
      ·rw[r _ (by omega)]
       apply N;rw[bE,kT (by simp;omega),mP,aD L2] at m;exact m
      ·rcases fv j (k+c.length) with Uk|Uk
       ·rw[z,show s+i * g+j=s+i * g+k+0+(j - k) by omega]
        apply g3;rw[bE,mO (by simp;omega),kT (by simp;omega)] at m;rw[<-m];congr 1;simp;omega
       ·rw[r _ (by omega)]
        apply N;rw[mO (by simp;omega),nn] at m;rw[<-m];congr 1;simp;omega
     ·rw[aC e] at l
      obtain⟨M,N⟩:=ca h4 I a6 l;refine⟨M,?_⟩;obtain⟨vs,h7,h8⟩:=cf N;have a9:=cj h7;refine dD (bO B.kept _ h7) λj v m=>?_;have a7:j<g:=by
       have:=(gI.1 m).1;omega
      rw[r _ ?_]
      ·exact h8 j v m
      ·rcases fv I i with p|wY
       ·have:=vg p a7
        omega
       ·have p:i<I:=by omega
        have:(i+1) * g<=I * g:=jl _ p;rw[dc] at this;omega
   ·exact h.elim
  ·exact h.elim
 ·exact h.elim
def DE (H:aA) (aE7:TypeId) (d:D) (K:D->aA->Prop):Prop:=
 match d.cells with
 |some cs=>∀b,H b=none->K (.ep b 0 cs.length 0 0) (H.aU b (.row aE7 0 cs.length [cs]))
 |none=>False
theorem Tf {P:Program}(e:eF w H){K:D->aA->Prop}(h:DE H aE7 d K)(hd:D.is w H.others d v):
  ∃r g w' H',(do pure (Value.pointer (some (<-newVar aE7 v))):Sem Value).run P w=.ok r w'/\D.is w' H'.others g r/\eF w' H'/\Ev H w H' w'/\K g H':=by
 unfold DE at h;split at h
 ·rename_i cs i
  have hu:=D.vK hd i;have j:=cj hu;refine⟨.pointer (some ⟨w.heap.size,0,none⟩),_,w.alloc (Obj.cells v.cells aE7),_,?_,?_,?_,gN _ _ e,h w.heap.size (ff e)⟩
  ·simp only[newVar,newRow,newObj,Sem.run_bind,Sem.run_pure,Result.andThen,Sem.run]
   rfl
  ·simp only[D.is];simp
  ·have:=xS (els:=[cs]) (vs:=v.cells.toList) e aE7 cs.length (by simpa using hu) (λel c=>by simp at c;rw[c]) (by simp at j ⊢;omega)
   simpa using this
 ·exact h.elim
def DB (P:Program) (H:aA) (aE7:TypeId) (K:D->aA->Prop):Prop:=
 match cG P aE7 with
 |some ⟨_,_,_,some c⟩=>c.all Value.oneCell'=true/\∀b,H b=none->K (.ep b 0 c.length 0 0) (H.aU b (.row aE7 0 c.length [c.map .val]))
 |_=>False
theorem sS {T:Ti}{c:List Value}(h:cG P t=some T)(hz:T.zero=some c)(w:World):∃z,(zeroValue t).run P w=.ok z w/\z.cells.toList=c:=by
 obtain⟨i,e,j,l,g,m⟩:=qG h w;rw[g] at hz;cases hi:i.zero with
 |none=>rw[hi] at hz;simp at hz
 |some z=>
  rw[hi] at hz
  simp at hz
  refine⟨z,?_,hz⟩
  unfold zeroValue
  simp only[Sem.run_bind,e,Result.andThen,hi,Sem.run_pure]
theorem T6 (g:eF w H){K:D->aA->Prop}(h:DB P H aE7 K):
  ∃r i w' H',(Instr.alloc aE7 true (.tuple #[])).run P w=.ok r w'/\D.is w' H'.others i r/\eF w' H'/\Ev H w H' w'/\K i H':=by
 unfold DB at h;split at h
 ·rename_i n
  obtain⟨l,h⟩:=h;rename_i e;obtain⟨z,m,j⟩:=sS n rfl w;refine⟨.pointer (some ⟨w.heap.size,0,none⟩),_,w.alloc (Obj.cells z.cells aE7),_,?_,?_,?_,gN _ _ g,h w.heap.size (ff g)⟩
  ·simp only[Instr.alloc,Sem.run_bind,m,Result.andThen,newVar,newRow,newObj,Sem.run_pure,Sem.run]
   rfl
  ·simp only[D.is];simp
  ·have hu:aW w H.others (e.map .val) z.cells.toList:=by rw[j];exact mR e (λv p=>(dK.1 l) v p)
   have:=xS (els:=[e.map .val]) (vs:=z.cells.toList) g aE7 e.length (by simpa using hu) (λel c=>by simp at c;rw[c];simp) (by rw[j];simp);simpa using this
 ·exact h.elim
def pv (e:Nat->Option (Nat×Nat)):List D->List (Nat×D)->Option (List D)
 |cs,[]=>some cs
 |cs,(i,d)::aDf=>
  match e i,d.cells with
  |some (off,size),some c=>if c.length=size/\off+c.length<=cs.length then pv e (jx cs off c) aDf else none
  |_,_=>none
theorem CP (off:Nat):∀(vs:List Value) (j:Nat) (cs:Array Value),off+j+vs.length<=cs.size->
  ((vs.zipIdx j).foldl (λcs (x:Value×Nat)=>cs.setIfInBounds (off+x.2) x.1) cs).toList=cs.toList.take (off+j)++vs++cs.toList.drop (off+j+vs.length)
 |[],j,cs,h=>by simp
 |v::vs,j,cs,h=>by
  simp only[List.zipIdx_cons,rH];rw[CP off vs (j+1) _ (by simp at h ⊢;omega)];have c:off+j<cs.toList.length:=by simp at h ⊢;omega
  simp only[Array.toList_setIfInBounds,bx];have e:(cs.toList.set (off+j) v).take (off+(j+1))=cs.toList.take (off+j)++[v]:=by
   rw[show off+(j+1)=off+j+1 by omega,List.take_add_one,wI c];rw[zG (by omega)];rfl
  have g:(cs.toList.set (off+j) v).drop (off+(j+1)+vs.length)=cs.toList.drop (off+j+(vs.length+1)):=by
   rw[List.drop_set_of_lt (by omega)];congr 1;omega
  rw[e,g];simp
theorem FO (off:Nat)(v:Value)(cs:Array Value)(h:off+v.cells.size<=cs.size):
  (v.cells.zipIdx.foldl (λcs (x:Value×Nat)=>cs.setIfInBounds (off+x.2) x.1) cs).toList=cs.toList.take off++v.cells.toList++cs.toList.drop (off+v.cells.size):=by
 have:=CP off v.cells.toList 0 cs (by simpa using h);rw[<-Array.foldl_toList];simpa using this
def iu (w:World) (S:Nat->Prop):List (Nat×D)->List (Nat×Value)->Prop
 |[],vs=>vs=[]
 |(i,d)::ds,vs=>∃v us,vs=(i,v)::us/\D.is w S d v/\iu w S ds us
theorem FN {S:Nat->Prop}{e:Nat->Option (Nat×Nat)}:∀{ds:List (Nat×D)}{vs:List (Nat×Value)}{cs r:List D}{us:Array Value},iu w S ds vs->pv e cs ds=some r->aW w S cs us.toList->
  ∃g,Instr.fill e us vs=some g/\aW w S r g.toList
 |[],vs,cs,r,us,h,hb,hc=>by
  simp only[iu] at h;subst h;simp only[pv] at hb;injection hb with hb
  subst hb;exact⟨us,rfl,hc⟩
 |(i,d)::ds,vs,cs,r,us,h,hb,hc=>by
  simp only[iu] at h;obtain⟨v,s,rfl,h1,h2⟩:=h;simp only[pv] at hb;split at hb
  ·rename_i off size c p l
   split at hb
   ·rename_i y
    have m:=D.vK h1 l;have B:=cj m;have E:=cj hc;have z:v.cells.toList.length=v.cells.size:=kW;have A:us.toList.length=us.size:=kW;simp only[Instr.fill,p];have n:¬(decide (v.cells.size≠size)||decide (off+v.cells.size>us.size))=true:=by simp;omega
    rw[aC n];refine FN h2 hb ?_;have:=FO off v us (by omega);rw[show(v.cells.zipIdx.foldl (λcs (x:Value×Nat)=>match x with|(c,j)=>cs.setIfInBounds (off+j) c) us)=v.cells.zipIdx.foldl (λcs (x:Value×Nat)=>cs.setIfInBounds (off+x.2) x.1) us from rfl,this];unfold jx;rw[show off+c.length=off+v.cells.size by omega];exact cg (cg (fY _ hc) m) (fX _ hc)
   ·cases hb
  ·cases hb
def eK (P:Program) (t:TypeId):Nat->Option (Nat×Nat):=
 match cG P t with
 |some ⟨.struct fs,_,_,_⟩=>λi=>match fs[i]? with
  |some (off,c)=>(match cG P c with
   |some T=>some (off,T.size)
   |none=>none)
  |none=>none
 |some ⟨.array _ e,_,_,_⟩=>λi=>match cG P e with
  |some E=>some (i * E.size,E.size)
  |none=>none
 |_=>λ_=>none
def eH (P:Program) (t:TypeId):Bool:=
 match cG P t with
 |some ⟨.struct fs,_,_,_⟩=>fs.all λf=>(cG P f.2).isSome
 |some ⟨.array _ e,_,_,_⟩=>(cG P e).isSome
 |_=>false
def B3 (P:Program) (t:TypeId) (ds:List (Nat×D)) (K:D->Prop):Prop:=
 match cG P t with
 |some ⟨_,_,_,some c⟩=>c.all Value.oneCell'=true/\eH P t=true/\(match pv (eK P t) (c.map .val) ds with
  |some cs=>K (.agg cs)
  |none=>False)
 |_=>False
theorem AG {p q:Nat->Option (Nat×Nat)}:∀{vs:List (Nat×Value)}{us:Array Value},(∀x∈vs,p x.1=q x.1)->Instr.fill p us vs=Instr.fill q us vs
 |[],_,_=>rfl
 |(i,v)::vs,us,h=>by
  simp only[Instr.fill];rw[<-h (i,v) (by simp)];cases hp:p i with
  |none=>rfl
  |some x=>
   obtain⟨off,size⟩:=x
   simp only
   split
   ·rfl
   ·exact AG λx c=>h x (by simp [c])
theorem J8 {c e:Type}(f:c->Sem e)(g:c->e):∀(l:List c),(∀x∈l,(f x).run P w=.ok (g x) w)->(l.mapM f).run P w=.ok (l.map g) w
 |[],_=>rfl
 |x::l,h=>by
  rw[List.mapM_cons];simp only[Sem.run_bind,h x (by simp),Result.andThen,J8 f g l (λy hy=>h y (by simp [hy])),Sem.run_pure,cC]
theorem T9 {S:Nat->Prop}{K:D->Prop}(h:B3 P t ds K)(hx:iu w S ds vs.toList):
  ∃u d,(Instr.build t vs).run P w=.ok u w/\D.is w S d u/\K d:=by
 unfold B3 at h;split at h
 ·rename_i dd _ _ G g
  obtain⟨N,c,h⟩:=h;split at h
  ·rename_i cs r
   obtain⟨z,R,V⟩:=sS g rfl w;have hz:aW w S (G.map .val) z.cells.toList:=by rw[V];exact mR G (λv hv=>(dK.1 N) v hv)
   obtain⟨B,A,Z⟩:=FN hx r hz;refine⟨.agg B,.agg cs,?_,by simp only[D.is];exact⟨B.toList,by simp,Z⟩,h⟩;obtain⟨d,i,I,a2,j⟩:=cZ g;injection j with j
   unfold Instr.build;simp only[Sem.run_bind,R,Result.andThen,bH I];cases d with
   |struct fs=>
    simp only[iI] at j
    subst j
    have y:(fs.mapM λf=>(do pure (f.offset,<-sizeOf f.type):Sem (Nat×Nat))).run P w=.ok (fs.map λf=>(f.offset,P.cellsOf f.type)) w:=by
     rw[Array.mapM_eq_mapM_toList];have:=J8 (P:=P) (w:=w) (λf:Field=>(do pure (f.offset,<-sizeOf f.type):Sem (Nat×Nat))) (λf=>(f.offset,P.cellsOf f.type)) fs.toList (λf s=>by
      have l:(cG P f.type).isSome=true:=by
       unfold eH at c;rw[g] at c;simp only[List.all_map,dK] at c;exact c f s
      cases hft:cG P f.type with
      |none=>rw[hft] at l;cases l
      |some T=>
       obtain⟨i',J,m,L,M,p⟩:=qG hft w
       simp only[Sem.run_bind,ek hft,Result.andThen,Sem.run_pure,Program.cellsOf,p,m]
       rfl)
     simp only[map_eq_pure_bind,Sem.run_bind,this,Result.andThen,Sem.run_pure];congr 1;exact gm (by simp)
    simp only[y,Sem.run_bind,Result.andThen]
    have e:Instr.fill (λi=>(fs.map λf=>(f.offset,P.cellsOf f.type))[i]?) z.cells vs.toList=Instr.fill (eK P t) z.cells vs.toList:=by
     refine AG λx _=>?_;unfold eK;rw[g];simp only[bg,Array.getElem?_map,Array.getElem?_toList];cases s:fs[x.1]? with
     |none=>rfl
     |some f=>
      have l:(cG P f.type).isSome=true:=by
       unfold eH at c;rw[g] at c;simp only[List.all_map,dK] at c;exact c f (by rw[Array.mem_toList_iff];exact tJ s)
      simp only[gJ]
      cases hft:cG P f.type with
      |none=>rw[hft] at l;cases l
      |some T=>
       obtain⟨i',J,m,L,M,p⟩:=qG hft w
       simp only[Program.cellsOf,p,m]
       rfl
    rw[e,A]
    rfl
   |array n el=>
    cases hE:cG P el with
    |none=>
     exfalso
     unfold eH at c
     rw[g,j] at c
     simp only[iI,hE] at c
     cases c
    |some E=>
     simp only[Sem.run_bind,ek hE,Result.andThen]
     have e:Instr.fill (λi=>some (i * E.size,E.size)) z.cells vs.toList=Instr.fill (eK P t) z.cells vs.toList:=by
      refine AG λx _=>?_;unfold eK;rw[g,j];simp only[iI,hE]
     rw[e,A]
     rfl
   |_=>
    exfalso
    unfold eH at c
    rw[g,j] at c
    cases c
  ·exact h.elim
 ·exact h.elim
theorem mo {S:Nat->Prop}:∀{els:List (List D)}{o:Nat},cK w S b sz o els->∃vs,aW w S els.flatten vs/\vs.length=els.length * sz/\∀(j:Nat) (v:Value),vs[j]?=some v->w.cell? ⟨b,o+j,none⟩=some v
 |[],_,_=>⟨[],by simp [aW],by simp,λj v h=>by simp at h⟩
 |e::els,o,h=>by
  simp only[cK] at h;obtain⟨h1,h2,h3⟩:=h;obtain⟨vs,i,l⟩:=cf h2;obtain⟨r,m,n,p⟩:=mo h3;have s:=cj i;refine⟨vs++r,by rw[tM];exact cg i m,by simp [n,dc];omega,λj v c=>?_⟩;rcases fv j vs.length with g|wY
  ·rw[kT g] at c;exact l j v c
  ·rw[mO wY] at c
   have:=p _ v c;rwa[show o+sz+(j - vs.length)=o+j by omega] at this
theorem AI:∀{els:List (List D)}{i:Nat}{el:List D},(∀e∈els,e.length=sz)->els[i]?=some el->(els.flatten.drop (i * sz)).take sz=el
 |[],i,el,_,h=>by simp at h
 |e::els,0,el,hs,h=>by
  simp at h;subst h;have:=hs e (by simp);simp [<-this]
 |e::els,i+1,el,hs,h=>by
  have c:=hs e (by simp);have h2:=AI (λx g=>hs x (by simp [g])) (show els[i]?=some el by simpa using h);rw[tM,dc,Nat.one_mul,List.drop_append,pK (by omega),c,cz];simpa [Nat.add_sub_cancel] using h2
theorem nf {S:Nat->Prop}{els:List (List D)}{vs:List Value}(hs:∀e∈els,e.length=sz)(hv:aW w S els.flatten vs)(hc:∀(j:Nat) (v:Value),vs[j]?=some v->w.cell? ⟨b,o+j,none⟩=some v):cK w S b sz o els:=
 dV λi el h=>⟨hs el (eh h),by
  have g:=fY sz (fX (i * sz) hv);rw[AI hs h] at g;refine dD g λj v c=>?_;rw[mP] at c;split at c
  ·rw[nn] at c
   rw[rK];exact hc _ v c
  ·cases c⟩
theorem lR {S:Nat->Prop}{els:List (List D)}(h:cK w S b sz o els):∀e∈els,e.length=sz:=λe c=>by
 obtain⟨i,g⟩:=pc c;exact(ca h i e g).1
def jd (sz:Nat):List (Nat×D)->Nat->Option (List (List D))
 |[],_=>some []
 |(i,d)::ds,k=>if i=k then (match d.cells,jd sz ds (k+1) with
  |some c,some els=>if c.length=sz then some (c::els) else none
  |_,_=>none) else none
def BR (P:Program) (H:aA) (t:TypeId) (len:Nat) (ds:List (Nat×D)) (K:D->aA->Prop):Prop:=
 match cG P t with
 |some ⟨.slice e,_,_,_⟩=>(match cG P e with
  |some ⟨_,sz,_,some g⟩=>g.length=sz/\ds.length=len/\len * sz<=16777216/\(match jd sz ds 0 with
   |some c=>∀b,H b=none->K (.os b 0 sz 0 len) (H.aU b (.row e 0 sz c))
   |none=>False)
  |_=>False)
 |_=>False
theorem u6 {S:Nat->Prop}:∀{ds:List (Nat×D)}{k:Nat}{els:List (List D)}{vs:List (Nat×Value)},jd sz ds k=some els->iu w S ds vs->
  els.length=ds.length/\(∀e∈els,e.length=sz)/\∀(us:Array Value),(k+ds.length) * sz<=us.size->∃g,Instr.fill (λi=>some (i * sz,sz)) us vs=some g/\g.size=us.size/\g.toList.take (k * sz)=us.toList.take (k * sz)/\aW w S els.flatten ((g.toList.drop (k * sz)).take (ds.length * sz))
 |[],k,els,vs,h,hp=>by
  simp only[jd] at h;injection h with h
  subst h;simp only[iu] at hp;subst hp;exact⟨rfl,by simp,λus _=>⟨us,rfl,rfl,rfl,by simp [aW]⟩⟩
 |(i,d)::ds,k,els,vs,h,hp=>by
  simp only[jd] at h;split at h
  ·rename_i wZ
   subst wZ;split at h
   ·rename_i c els' hc hr
    split at h
    ·rename_i y
     injection h with h
     subst h;simp only[iu] at hp;obtain⟨v,M,rfl,h1,h2⟩:=hp;obtain⟨G,h4,I⟩:=u6 hr h2;have E:=D.vK h1 hc;have R:=cj E;have N:v.cells.toList.length=v.cells.size:=kW;refine⟨by simp [G],by simpa [y] using h4,λus A=>?_⟩;have p:(i+(ds.length+1)) * sz=i * sz+sz+ds.length * sz:=by rw[dc,dc];omega
     simp only[bx,p] at A;have j:=FO (i * sz) v us (by omega);have m:(v.cells.zipIdx.foldl (λcs (x:Value×Nat)=>cs.setIfInBounds (i * sz+x.2) x.1) us).size=us.size:=by
      rw[<-kW,j];simp;omega
     obtain⟨g,J,K,s,B⟩:=I (v.cells.zipIdx.foldl (λcs (x:Value×Nat)=>cs.setIfInBounds (i * sz+x.2) x.1) us) (by rw[m,dc,dc];omega);have z:(i+1) * sz=i * sz+sz:=by rw[dc];omega
     rw[z] at s B;refine⟨g,?_,by rw[K,m],?_,?_⟩
     ·simp only[Instr.fill]
      have L:¬(decide (v.cells.size≠sz)||decide (i * sz+v.cells.size>us.size))=true:=by simp;omega
      rw[aC L];exact J
     ·have:=ai (List.take (i * sz)) s
      rw[wT,wT,j] at this;rw[show min (i * sz) (i * sz+sz)=i * sz by omega] at this;rw[this,bE,uh (by simp;omega),wT,Nat.min_self]
     ·have r:(g.toList.drop (i * sz)).take sz=v.cells.toList:=by
       have:=ai (λl=>(l.drop (i * sz))) s;simp only[List.drop_take] at this;rw[show i * sz+sz - i * sz=sz by omega,j] at this;rw[this,bE,List.drop_append,bX,kW];rw[pK (by simp;omega),show i * sz - min (i * sz) us.size=0 by omega,cz,dj,uh (by omega),bK (by omega)]
      have n:(g.toList.drop (i * sz)).take ((ds.length+1) * sz)=v.cells.toList++(g.toList.drop (i * sz+sz)).take (ds.length * sz):=by rw[<-r,dc,Nat.one_mul,Nat.add_comm (ds.length * sz) sz,List.take_add,pP]
      rw[bx,n,tM]
      exact cg E B
    ·cases h
   ·cases h
  ·cases h
theorem GO (B:eF w H){K:D->aA->Prop}(h:BR P H t len ds K)(hx:iu w H.others ds vs.toList):
  ∃r E w' H',(Instr.buildSlice t len vs).run P w=.ok r w'/\D.is w' H'.others E r/\eF w' H'/\Ev H w H' w'/\K E H'/\∃A,r=.slice A len len:=by
 unfold BR at h;split at h
 ·rename_i e _ _ _ T
  split at h
  ·rename_i dE sz L zs I
   obtain⟨a0,n,aM,h⟩:=h;split at h
   ·rename_i p m
    obtain⟨d,i,J,a2,l⟩:=cZ T;injection l with l
    cases d <;> simp [iI] at l
    subst l;obtain⟨z,V,Z⟩:=sS I rfl w;obtain⟨M,N,R⟩:=u6 m hx;obtain⟨c,j⟩:∃c:Array Value,c=if len * sz=0 then #[] else z.cells:=⟨_,rfl⟩
    obtain⟨g,G,s,_,y⟩:=R ((Array.range (len * sz)).map (c[·% c.size]!)) (by simp [n]);rw[rL,dj,n] at y;have S:g.toList.take (len * sz)=g.toList:=bK (by rw[kW,s];simp);rw[S] at y;refine⟨.slice (some ⟨w.heap.size,0,none⟩) len len,_,w.alloc (Obj.cells g e),_,?_,?_,?_,gN _ _ B,h w.heap.size (ff B),_,rfl⟩
    ·unfold Instr.buildSlice
     simp only[Sem.run_bind,bH J,Result.andThen,ek I];rw[aC (by omega)];by_cases h0:len * sz=0
     ·rw[aD h0] at j ⊢
      subst j;simp only[Sem.run_bind,Sem.run_pure,Result.andThen,G,newRow,newObj,Sem.run];rfl
     ·rw[aC h0] at j ⊢
      subst j;simp only[Sem.run_bind,V,Sem.run_pure,Result.andThen,G,newRow,newObj,Sem.run];rfl
    ·simp only[D.is]
     refine⟨_,_,rfl,bh _,?_⟩;rcases wO len with h0|h0
     ·exact .inl h0
     ·right
      refine⟨by simp,g,e,(0,0),heap_alloc_new w _,?_⟩;rw[s];simp
    ·have:=xS (vs:=g.toList) B e sz p y N (by rw[M,n,kW,s];simp)
     simpa using this
   ·exact h.elim
  ·exact h.elim
 ·exact h.elim
theorem Jm (m:eF w H){K:D->aA->Prop}(h:BR P H t len ds K)(hx:iu w H.others ds vs.toList):
  ∃r c w' H',(Instr.buildSlice t len vs).run P w=.ok r w'/\D.is w' H'.others c r/\eF w' H'/\Ev H w H' w'/\K c H':=
 let ⟨r,c,w',H',e,g,i,j,l,_⟩:=GO m h hx
 ⟨r,c,w',H',e,g,i,j,l⟩
def EC (P:Program) (H:aA) (t:TypeId) (n c:D) (K:D->aA->Prop):Prop:=
 match n,c,cG P t with
 | .val (.int _ l),.val (.int _ c),some ⟨.slice e,_,_,_⟩=>(match cG P e with
  |some ⟨_,sz,h,some g⟩=>g.length=sz/\g.all Value.oneCell'=true/\0<=l/\l<=c/\(h:Int) * c<=281474976710656/\c<=9223372036854775807/\
   ∀b,H b=none->K (.os b 0 sz 0 l.toNat) (H.aU b (.row e 0 sz (List.replicate l.toNat (g.map .val))))
  |_=>False)
 |_,_,_=>False
theorem To (I:eF w H){n c:D}{K:D->aA->Prop}(h:EC P H t n c K)(hn:D.is w H.others n v)(hc:D.is w H.others c u):
  ∃r T w' H',(Instr.makeSlice t v u).run P w=.ok r w'/\D.is w' H'.others T r/\eF w' H'/\Ev H w H' w'/\K T H':=by
 unfold EC at h;split at h
 ·rename_i kl l kc S e _ _ _ hT
  have e1:=cQ hn;have e2:=cQ hc;subst e1 e2;split at h
  ·rename_i dE sz a0 zs hE
   obtain⟨s,B,h0,J,hb,G,h⟩:=h;obtain⟨d,i,V,a2,y⟩:=cZ hT;injection y with y
   cases d <;> simp [iI] at y
   subst y;obtain⟨N,b1,A,R,g,Z⟩:=qG hE w;simp only at A R g;cases hz:N.zero with
   |none=>rw[hz] at g;cases g
   |some z=>
    rw[hz] at g
    simp at g
    have hr:=run_make (P:=P) w t e N z V Z hz kl kc l S h0 J (by rw[<-R];exact hb) G
    refine⟨_,_,_,_,hr,?_,?_,gN _ _ I,h w.heap.size (ff I)⟩
    ·simp only[D.is]
     refine⟨_,_,rfl,by omega,?_⟩
     right
     refine⟨by simp,_,e,(0,0),heap_alloc_new w _,?_⟩
     rw[size_madeCells,A]
     simp
    ·refine I.alloc ⟨_,(0,0),heap_alloc_new w _,JH _,?_,?_⟩
     ·rw[size_madeCells,wJ,A,kG]
      exact jl _ (by omega)
     ·refine dV λj el m=>?_
      rw[List.getElem?_replicate] at m
      split at m
      ·rename_i a4
       injection m with m
       subst m
       refine⟨by simp [s],?_⟩
       refine dD (mR zs (λv hv=>(dK.1 B) v hv)) λq v M=>?_
       have p:q<sz:=by have:=(gI.1 M).1;omega
       rw[cell_of_row _ _ _ _ _ _ (heap_alloc_new w _)]
       have L:0+j * sz+q<S.toNat * N.size:=by
        rw[<-A,kG];exact vg (by omega) p
       unfold madeCells
       rw[Array.getElem?_map,Array.getElem?_range,aD L]
       have E:z.cells.size=sz:=by rw[<-kW,<-g];exact s
       simp only[gJ]
       rw[E,kG,Nat.add_comm,Nat.add_mul_mod_self_right,zP p]
       rw[g] at M
       rw[<-M]
       have:q<z.cells.size:=by omega
       simp [this]
      ·cases m
  ·exact h.elim
 ·exact h.elim
def rS (c:Int):Option D->Option Int
 |none=>some c
 |some (.val (.int _ i))=>some i
 |_=>none
def yB (w:World) (S:Nat->Prop) (d:Option D) (v:Option Value):Prop:=match d,v with|some d,some v=>D.is w S d v|none,none=>True|_,_=>False
theorem Ez {S:Nat->Prop}{c i:Int}{d:Option D}{v:Option Value}(h:rS c d=some i)(hv:yB w S d v):
  (d=none/\v=none/\i=c)\/∃k,v=some (.int k i):=by
 cases d with
 |none=>cases v with
  |none=>simp only[rS] at h;injection h with h;exact .inl ⟨rfl,rfl,h.symm⟩
  |some v=>exact hv.elim
 |some d=>cases v with
  |none=>exact hv.elim
  |some v=>
   simp only[yB] at hv
   cases d with
   |val u=>
    have e:=cQ hv
    subst e
    cases v with
    |int k n=>simp only[rS] at h;injection h with h;subst h;exact .inr ⟨k,rfl⟩
    |_=>simp [rS] at h
   |_=>simp [rS] at h
theorem qi {P:Program}{w:World}{isSl:Bool}{cap:Nat}{g hi:Option Value}{l h:Int}(hl:(g=none/\l=0)\/∃k,g=some (.int k l))(n:(hi=none/\h=len)\/∃k,hi=some (.int k h))(h0:0<=l)(h1:l<=h)(h2:h<=cap):
  (Instr.sliceBounds isSl len cap g hi none).run P w=.ok (l.toNat,h.toNat,cap) w:=by
 have j:∀(k:IntKind) (i:Int) (y:Nat) c,0<=i->i<=y->(Instr.sliceBound (.int k i) y c).run P w=.ok i.toNat w:=λk i y c a b=>by
  unfold Instr.sliceBound;simp only[Sem.run_bind,asIntOf,Sem.run_pure,Result.andThen];rw[aD ⟨a,b⟩];rfl
 have m:((h.toNat:Nat):Int)=h:=Int.toNat_of_nonneg (by omega);have e:∀c,(match g with|some v=>Instr.sliceBound v h.toNat c|none=>pure 0:Sem Nat).run P w=.ok l.toNat w:=λc=>by
  rcases hl with⟨rfl,rfl⟩|⟨k,rfl⟩
  ·rfl
  ·exact j k l _ _ h0 (by omega)
 unfold Instr.sliceBounds;rcases n with⟨rfl,rfl⟩|⟨k,rfl⟩
 ·rw[aX] at e ⊢
  simp only[Sem.run_bind,Sem.run_pure,Result.andThen,Option.isSome_none,ia,dY];have:=e .sliceB;rcases hl with⟨rfl,rfl⟩|⟨p,rfl⟩
  ·rfl
  ·simp only[Sem.run_bind] at this ⊢
   rw[this];rfl
 ·simp only[Sem.run_bind,Sem.run_pure,Result.andThen,j k h cap _ (by omega) h2,Option.isSome_none,ia,dY]
  have:=e .sliceB;rcases hl with⟨rfl,rfl⟩|⟨p,rfl⟩
  ·rfl
  ·simp only[Sem.run_bind] at this ⊢
   rw[this];rfl
def vL (sz:Nat):Nat->List D->List (List D)
 |0,_=>[]
 |k+1,cs=>cs.take sz::vL sz k (cs.drop sz)
theorem CB (sz:Nat):∀(k:Nat) (cs:List D),(vL sz k cs).length=k
 |0,_=>rfl
 |k+1,cs=>by rw[vL,bx,CB sz k]
def Be (P:Program) (H:aA) (t:TypeId) (x:D) (g hi j:Option D) (K:D->Prop):Prop:=
 match cG P t with
 |some ⟨.slice e,_,_,_⟩=>(match cG P e,j with
  |some E,none=>(match x with
   | .seq sz i=>(match rS 0 g,rS i.length hi with
    |some l,some h=>sz=E.size/\0<=l/\l<=h/\h<=(i.length:Int)/\K (.seq sz ((i.take h.toNat).drop l.toNat))
    |_,_=>False)
   | .os b o sz k n=>(match rS 0 g,rS n hi with
    |some l,some h=>sz=E.size/\0<=l/\l<=h/\h<=(n:Int)/\K (.os b o sz (k+l.toNat) (h.toNat - l.toNat))
    |_,_=>False)
   | .val (.slice none 0 0)=>(match rS 0 g,rS 0 hi with
    |some l,some h=>l=0/\h=0/\K (.val (.slice none 0 0))
    |_,_=>False)
   | .Ep=>(match rS 0 g,rS 0 hi with
    |some l,some h=>l=0/\h=0/\K .Ep
    |_,_=>False)
   | .val (.slice (some ⟨b,o,none⟩) n c)=>(match rS 0 g,rS n hi with
    |some l,some h=>l=0/\0<=h/\h<=(n:Int)/\n<=c/\K (.val (.slice (some ⟨b,o,none⟩) h.toNat c))
    |_,_=>False)
   |_=>False)
  |some E,some (.val (.int _ 0))=>(match rS 0 g,hi with
   |some 0,some (.val (.int _ 0))=>(match x with
    | .seq _ _| .os _ _ _ _ _| .Ep=>K .Ep
    | .val (.slice none _ _)=>K (.val (.slice none 0 0))
    |_=>False)
   |_,_=>False)
  |_,_=>False)
 |some ⟨.string,_,_,_⟩=>(match x,j with
  | .val (.string s),none=>(match rS 0 g,rS s.size hi with
   |some l,some h=>0<=l/\l<=h/\h<=(s.size:Int)/\K (.val (.string (s.extract l.toNat h.toNat)))
   |_,_=>False)
  |_,_=>False)
 |some ⟨.array n e,_,_,_⟩=>(match cG P e,j,x with
  |some E,none,.rp cs=>(match rS 0 g,rS n hi with
   |some l,some h=>if E.size=1 then n<=cs.length/\0<=l/\l<=h/\h<=(n:Int)/\K (.seq 1 (((cs.take h.toNat).drop l.toNat).map λc=>[c]))
    else n * E.size<=cs.length/\0<=l/\l<=h/\h<=(n:Int)/\K (.seq E.size (vL E.size (h.toNat - l.toNat) (cs.drop (l.toNat * E.size))))
   |_,_=>False)
  |_,_,_=>False)
 |_=>False
theorem yG {S:Nat->Prop}:∀{cs:List D}{o:Nat},bU w S b o cs->cK w S b 1 o (cs.map λc=>[c])
 |[],_,_=>by simp only[fw,cK]
 |c::cs,o,h=>by
  simp only[bU] at h;simp only[cC,cK,bU];exact⟨rfl,⟨h.1,trivial⟩,yG h.2⟩
theorem vn {S:Nat->Prop}:∀{k:Nat}{cs:List D}{o:Nat},bU w S b o cs->k * sz<=cs.length->cK w S b sz o (vL sz k cs)
 |0,_,_,_,_=>by simp only[vL,cK]
 |k+1,cs,o,h,hl=>by
  rw[kH] at hl;simp only[vL,cK];refine⟨by rw[bX];omega,qU h _,vn (iQ h _) (by rw[gd];omega)⟩
theorem Tr {lo hi mx:Option D}{I G N:Option Value}{K:D->Prop}(h:Be P H t x lo hi mx K)(hx:D.is w H.others x v)
  (a7:yB w H.others lo I) (Z:yB w H.others hi G) (M:yB w H.others mx N):∃u d,(Instr.sliceAt t v I G N).run P w=.ok u w/\D.is w H.others d u/\K d:=by
 have r:∀{l:Int},rS 0 lo=some l->(I=none/\l=0)\/∃k,I=some (.int k l):=λhb=>by
  rcases Ez hb a7 with⟨_,h1,B⟩|h1
  ·exact .inl ⟨h1,B⟩
  ·exact .inr h1
 have z:∀{m h:Int},rS m hi=some h->(G=none/\h=m)\/∃k,G=some (.int k h):=λhb=>by
  rcases Ez hb Z with⟨_,h1,B⟩|h1
  ·exact .inl ⟨h1,B⟩
  ·exact .inr h1
 unfold Be at h;split at h
 ·rename_i e _ _ _ hT
  obtain⟨dT,iT,a1,a2,L⟩:=cZ hT;injection L with L
  cases dT <;> simp [iI] at L
  subst L;split at h
  ·rename_i E hE
   cases N with
   |some _=>exact M.elim
   |none=>
   have p:∀{A:Option Addr}{n c:Nat}{l j:Int},((I=none/\l=0)\/∃k,I=some (.int k l))->((G=none/\j=n)\/∃k,G=some (.int k j))->0<=l->l<=j->j<=n->n<=c->
     (Instr.sliceAt t (.slice A n c) I G none).run P w=.ok (.slice (if c=l.toNat then A else A.map (·.add (l.toNat * E.size))) (j.toNat - l.toNat) (c - l.toNat)) w:=λ{A n c l j} h1 B V T h5 h6=>by
    unfold Instr.sliceAt;simp only[Sem.run_bind,bH a1,Result.andThen,Instr.slice,qi (P:=P) (w:=w) (isSl:=true) (len:=n) (cap:=c) h1 B V T (by omega),ek hE,Sem.run_pure]
   split at h
   ·rename_i sz a6
    split at h
    ·rename_i l j g i
     obtain⟨rfl,S,h1,B,h⟩:=h;simp only[D.is] at hx;obtain⟨A,c,rfl,V,T⟩:=hx;refine⟨_,_,p (r g) (z i) S h1 B V,?_,h⟩;simp only[D.is];have R:((a6.take j.toNat).drop l.toNat).length=j.toNat - l.toNat:=by rw[gd,bX];omega
     refine⟨_,_,by rw[R],by rw[R];omega,?_⟩;rcases T with rfl|⟨b,o,rfl,h5,h6,h7⟩
     ·left;simp
     ·by_cases J:c=l.toNat
      ·left
       apply cy;rw[R];omega
      ·right
       rw[aC J];exact⟨b,o+l.toNat * E.size,by rw[gJ,Addr.add_lit],h5,h6,mn (ko h7 _) _⟩
    ·exact h.elim
   ·rename_i b o sz k n
    split at h
    ·rename_i l j g i
     obtain⟨rfl,S,h1,B,h⟩:=h;simp only[D.is] at hx;obtain⟨A,c,rfl,V,T⟩:=hx;refine⟨_,_,p (r g) (z i) S h1 B V,?_,h⟩;simp only[D.is];refine⟨_,_,rfl,by omega,?_⟩;by_cases J:c=l.toNat
     ·left;omega
     ·right
      rcases T with T|⟨rfl,cs,ty,fr,h5,h6⟩
      ·omega
      ·rw[aC J,gJ,Addr.add_lit,rK,<-dc]
       exact⟨rfl,cs,ty,fr,h5,by rw[show k+l.toNat+(c - l.toNat)=k+c by omega];exact h6⟩
    ·exact h.elim
   ·split at h
    ·rename_i l j g i
     obtain⟨rfl,rfl,h⟩:=h;have e1:=cQ hx;subst e1;refine⟨_,_,p (n:=0) (r g) (z i) (by omega) (by omega) (by omega) (by omega),?_,h⟩;simp only[D.is];rfl
    ·exact h.elim
   ·split at h
    ·rename_i l j g i
     obtain⟨rfl,rfl,h⟩:=h;simp only[D.is] at hx;obtain⟨A,rfl⟩:=hx;refine⟨_,_,p (n:=0) (r g) (z i) (by omega) (by omega) (by omega) (by omega),?_,h⟩;simp only[D.is];exact⟨_,rfl⟩
    ·exact h.elim
   ·split at h
    ·rename_i l j g i
     obtain⟨rfl,S,h1,B,h⟩:=h;have e1:=cQ hx;subst e1;refine⟨_,_,p (r g) (z i) (by omega) S h1 B,?_,h⟩;have ea:∀(b o:Nat),(if 0=(0:Int).toNat then some (⟨b,o,none⟩:Addr) else none)=some ⟨b,o,none⟩:=λ_ _=>rfl;simp only[D.is,Int.toNat_zero,tP,rL,gJ,Addr.add_lit,rM,ite_self]
    ·exact h.elim
   ·exact h.elim
  ·rename_i E _ _ hE
   cases N with
   |none=>exact M.elim
   |some vm=>
   simp only[yB,D.is] at M;subst M;split at h
   ·rename_i k0 g
    cases G with
    |none=>exact Z.elim
    |some vh=>
    simp only[yB,D.is] at Z;subst Z;have hl:=r g;have sb:∀(k:IntKind) (y:Nat) a0,(Instr.sliceBound (.int k 0) y a0).run P w=.ok 0 w:=λk y a0=>by
     unfold Instr.sliceBound;simp only[Sem.run_bind,asIntOf,Sem.run_pure,Result.andThen];rw[aD ⟨by omega,by omega⟩];rfl
    have p:∀{km:IntKind}{A:Option Addr}{n c:Nat},(Instr.sliceAt t (.slice A n c) I (some (.int k0 0)) (some (.int km 0))).run P w=.ok (.slice A 0 0) w:=λ{km A n c}=>by
     unfold Instr.sliceAt;simp only[Sem.run_bind,bH a1,Result.andThen,Instr.slice,Instr.sliceBounds,sb,Sem.run_pure];rcases hl with⟨rfl,_⟩|⟨k',rfl⟩
     ·simp only[Sem.run_pure,ek hE]
      rfl
     ·simp only[sb,Sem.run_pure,ek hE]
      rfl
    split at h
    ·simp only[D.is] at hx
     obtain⟨A,c,rfl,_⟩:=hx;exact⟨_,_,p,by simp only[D.is];exact⟨_,rfl⟩,h⟩
    ·simp only[D.is] at hx
     obtain⟨A,c,rfl,_⟩:=hx;exact⟨_,_,p,by simp only[D.is];exact⟨_,rfl⟩,h⟩
    ·simp only[D.is] at hx
     obtain⟨A,rfl⟩:=hx;exact⟨_,_,p,by simp only[D.is];exact⟨_,rfl⟩,h⟩
    ·have e1:=cQ hx
     subst e1;exact⟨_,_,p,by simp only[D.is],h⟩
    ·exact h.elim
   ·exact h.elim
  ·exact h.elim
 ·rename_i hT
  obtain⟨dT,iT,a1,a2,L⟩:=cZ hT;injection L with L
  cases dT <;> simp [iI] at L
  split at h
  ·rename_i s
   cases N with
   |some _=>exact M.elim
   |none=>
   split at h
   ·rename_i l j g i
    obtain⟨S,h1,B,h⟩:=h;have e1:=cQ hx;subst e1;refine⟨_,_,?_,lN _,h⟩;unfold Instr.sliceAt;simp only[Sem.run_bind,bH a1,Result.andThen,Instr.slice,Option.isSome_none,ia,dY,qi (P:=P) (w:=w) (isSl:=false) (len:=s.size) (cap:=s.size) (r g) (z i) S h1 B,Sem.run_pure]
   ·exact h.elim
  ·exact h.elim
 ·rename_i n e _ _ _ hT
  obtain⟨dT,iT,a1,a2,L⟩:=cZ hT;injection L with L
  cases dT <;> simp [iI] at L
  rename_i n' e';obtain⟨L,a4⟩:=L;subst n' e';split at h
  ·rename_i E cs hE
   cases N with
   |some _=>exact M.elim
   |none=>
   split at h
   ·rename_i l j g i
    split at h
    ·rename_i a5
     obtain⟨hn,S,h1,B,h⟩:=h;simp only[D.is] at hx;obtain⟨b,o,rfl,V,T,h5⟩:=hx;have R:(((cs.take j.toNat).drop l.toNat).map λc=>[c]).length=j.toNat - l.toNat:=by rw[aS,gd,bX];omega
     refine⟨.slice (some (if n=l.toNat then ⟨b,o,none⟩ else (⟨b,o,none⟩:Addr).add (l.toNat * E.size))) (j.toNat - l.toNat) (n - l.toNat),_,?_,?_,h⟩
     ·unfold Instr.sliceAt
      simp only[Sem.run_bind,bH a1,Result.andThen,Instr.sureAddr,Sem.run_pure,qi (P:=P) (w:=w) (isSl:=false) (len:=n) (cap:=n) (r g) (z i) S h1 B,ek hE]
     ·simp only[D.is]
      refine⟨_,_,by rw[R],by rw[R];omega,?_⟩;by_cases J:n=l.toNat
      ·left
       apply cy;rw[R];omega
      ·right
       rw[aC J,a5,jZ];exact⟨b,o+l.toNat,by rw[Addr.add_lit],V,T,yG (iQ (qU h5 _) _)⟩
    ·rename_i a5
     obtain⟨hn,S,h1,B,h⟩:=h;simp only[D.is] at hx;obtain⟨b,o,rfl,V,T,h5⟩:=hx;have R:=CB E.size (j.toNat - l.toNat) (cs.drop (l.toNat * E.size));refine⟨.slice (some (if n=l.toNat then ⟨b,o,none⟩ else (⟨b,o,none⟩:Addr).add (l.toNat * E.size))) (j.toNat - l.toNat) (n - l.toNat),_,?_,?_,h⟩
     ·unfold Instr.sliceAt
      simp only[Sem.run_bind,bH a1,Result.andThen,Instr.sureAddr,Sem.run_pure,qi (P:=P) (w:=w) (isSl:=false) (len:=n) (cap:=n) (r g) (z i) S h1 B,ek hE]
     ·simp only[D.is]
      refine⟨_,_,by rw[R],by rw[R];omega,?_⟩;by_cases J:n=l.toNat
      ·left
       apply cy;rw[R];omega
      ·right
       rw[aC J];refine⟨b,o+l.toNat * E.size,by rw[Addr.add_lit],V,T,vn (iQ h5 _) ?_⟩;rw[gd];have e1:(j.toNat - l.toNat) * E.size=j.toNat * E.size - l.toNat * E.size:=Nat.sub_mul _ _ _;have e2:j.toNat * E.size<=n * E.size:=jl _ (by omega);omega
   ·exact h.elim
  ·exact h.elim
 ·exact h.elim
end Go.Proofs.YtffgfafbffdgaaaGreatDoor
