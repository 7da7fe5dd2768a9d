/- Lemmas and contracts of functions, several texts in one. -/
import Derived.Deep.Slices
import Derived.OpenShut
import Derived.Test.YtffgfafbffdgaaaGreatDoorR07
import Derived.Maps.RangeRun
set_option maxRecDepth 100000
set_option maxHeartbeats 4000000
set_option linter.all false
namespace Go.Proofs.YtffgfafbffdgaaaGreatDoor
open Go.RowKit
theorem UY {P:Program}{f:FuncId}{ds:List D}{vs:List Value}{w:World}(h:aN P f ds .none λd _=>d=.val (.bool true)) (hv:aT w aA.none.others ds vs) (hG:wW w aA.none:=by first|exact aD5 _ _|assumption):
  Calls P f vs.toArray w λe w'=>e=.returned (.bool true)/\Below w.heap.size w w':=
 (h.2 w vs hv (λb x hb=>by cases hb) hG).mono λe w' ⟨v,d,H',he,hd,_,fV,hk⟩=>by
  subst hk;rw[cQ hd] at he;exact⟨he,fV.os,fV.tape,fV.output,fV.size,λk hk=>(fV.cM k hk rfl).1⟩
end Go.Proofs.YtffgfafbffdgaaaGreatDoor
namespace Go.Proofs.YtffgfafbffdgaaaGreatDoor
open Go.RowKit Go.WideShapes
variable {t:TypeId}{aDr n:Nat}
inductive DT where
 |int (k:IntKind)
 |bool
 |string
 |slice (sz rq:Nat) (e:DT)
 |struct (fs:List DT)
 |array (n:Nat) (e:DT)
inductive X where
 |int (k:IntKind) (n:Int)
 |bool (b:Bool)
 |str (s:ByteArray)
 |list (sz:Nat) (xs:List X)
 |agg (xs:List X)
instance:Inhabited X:=⟨.bool false⟩
mutual
def X.cs:X->List D
 | .int k n=>[.val (.int k n)]
 | .bool b=>[.val (.bool b)]
 | .str s=>[.val (.string s)]
 | .list sz xs=>[.seq sz (X.Kr xs)]
 | .agg xs=>X.DP xs
def X.Kr:List X->List (List D)
 |[]=>[]
 |x::xs=>X.cs x::X.Kr xs
def X.DP:List X->List D
 |[]=>[]
 |x::xs=>X.cs x++X.DP xs
end
theorem X.DQ:∀(a:List X),X.Kr a=a.map X.cs
 |[]=>by simp [X.Kr]
 |x::a=>by simp [X.Kr,X.DQ a]
def X.d:X->D
 | .int k n=>.val (.int k n)
 | .bool b=>.val (.bool b)
 | .str s=>.val (.string s)
 | .list sz a=>.seq sz (X.Kr a)
 | .agg a=>.agg (X.DP a)
mutual
def DT.ok:DT->X->Prop
 | .int k,x=>∃n,x=.int k n/\(Lit.int k n).wf=true
 | .bool,x=>∃b,x=.bool b
 | .string,x=>∃s,x=.str s/\s.size<=140737488351232
 | .slice sz rq e,x=>∃xs,x=.list sz xs/\xs.length * rq<=140737488351232/\∀y∈xs,DT.ok e y
 | .struct fs,x=>∃xs,x=.agg xs/\DT.PJ fs xs
 | .array n e,x=>∃xs,x=.agg xs/\xs.length=n/\∀y∈xs,DT.ok e y
def DT.PJ:List DT->List X->Prop
 |[],xs=>xs=[]
 |f::fs,xs=>∃y ys,xs=y::ys/\DT.ok f y/\DT.PJ fs ys
end
def zu (P:Program):Nat->List Field->Nat->Bool
 |o,[],n=>o==n
 |o,f::fs,n=>f.offset==o&&zu P (o+P.cellsOf f.type) fs n
mutual
def rW (P:Program) (t:TypeId):DT->Bool
 | .int k=>(match P.underlying t with
  |some (.int k')=>decide (k'=k)
  |_=>false)
 | .bool=>(match P.underlying t with
  |some .bool=>true
  |_=>false)
 | .string=>(match P.underlying t with
  |some .string=>true
  |_=>false)
 | .slice sz rq e=>(match P.underlying t with
  |some (.slice te)=>P.cellsOf te==sz&&decide (0<sz)&&P.bytesOf te==rq&&rW P te e
  |_=>false)
 | .struct ds=>(match P.underlying t with
  |some (.struct fs)=>zu P 0 fs.toList (P.cellsOf t)&&Bs P (fs.toList.map (·.type)) ds
  |_=>false)
 | .array n e=>(match P.underlying t with
  |some (.array m te)=>m==n&&P.cellsOf t==n * P.cellsOf te&&rW P te e
  |_=>false)
def Bs (P:Program):List TypeId->List DT->Bool
 |[],[]=>true
 |t::ts,d::ds=>rW P t d&&Bs P ts ds
 |_,_=>false
end
section
variable {H:Type}{enc:TypeId×Value->H}{P:Program}{w:World}{base:Nat}{aFg:Nat->Bool}{aGZ:Bool}
theorem trod_int {k:IntKind}{cs:List Value}{x:DataW H×List MemPlace}(ht:P.underlying t=some (.int k))(h:DataW.trod enc P w base aFg aGZ aDr t cs=some x):∃n,cs=[.int k n]/\(Lit.int k n).wf=true:=by
 cases aDr with
 |zero=>simp [DataW.trod] at h
 |succ m=>
  unfold DataW.trod at h
  rw[ht] at h
  split at h <;> simp_all
theorem MJ {cs:List Value}{x:DataW H×List MemPlace}(ht:P.underlying t=some .bool)(h:DataW.trod enc P w base aFg aGZ aDr t cs=some x):∃b,cs=[.bool b]:=by
 cases aDr with
 |zero=>simp [DataW.trod] at h
 |succ m=>
  unfold DataW.trod at h
  rw[ht] at h
  split at h <;> simp_all
theorem QL {cs:List Value}{x:DataW H×List MemPlace}(ht:P.underlying t=some .string)(h:DataW.trod enc P w base aFg aGZ aDr t cs=some x):∃s,cs=[.string s]/\x.1=.lit (.string s.data.toList):=by
 cases aDr with
 |zero=>simp [DataW.trod] at h
 |succ m=>
  unfold DataW.trod at h
  rw[ht] at h
  split at h <;> simp_all
  rw[<-h.2]
theorem oZ {e:TypeId}:∀{l:List (DataW H)},(DataW.weightsAll P e l).all (·<=reachBytes)=true->∀d∈l,(d.weights P e).all (·<=reachBytes)=true
 |[],_,d,hd=>by cases hd
 |d0::l,h,d,hd=>by
  simp only[DataW.weightsAll,wR,cX] at h;rcases bV.1 hd with rfl|hd
  ·exact h.1
  ·exact oZ h.2 d hd
end
theorem vI {w:World}{S:Nat->Prop}{cs ds:List D}{vs:List Value}(h1:aW w S cs (vs.take n))(h2:aW w S ds (vs.drop n)):aW w S (cs++ds) vs:=by
 rw[<-ga n vs];exact cg h1 h2
section
variable {H:Type}{enc:TypeId×Value->H}{P:Program}{w:World}{base:Nat}{aFg:Nat->Bool}{aGZ:Bool}{S:Nat->Prop}(hS:∀b,S b)
theorem FF {f:Type}{p:Nat->f->Prop}(h:∀i,i<n->∃x,p i x):∃l:List f,l.length=n/\∀i x,l[i]?=some x->p i x:=by
 induction n with
 |zero=>exact⟨[],rfl,λi x c=>by cases c⟩
 |succ n k=>
  obtain⟨l,g,j⟩:=k λi e=>h i (by omega)
  obtain⟨x,c⟩:=h n (by omega)
  refine⟨l++[x],by simp [g],λi y a=>?_⟩
  by_cases e:i<l.length
  ·rw[kT e] at a
   exact j i y a
  ·rw[mO (by omega)] at a
   have b:i - l.length=0:=by
    have:=(gI.1 a).1;simp at this;omega
   rw[b] at a
   simp only[lk,iJ] at a
   subst a
   rw[show i=n by omega]
   exact c
def Good (P:Program) (w:World) (S:Nat->Prop) (a:DT) (cs:List Value):Prop:=∃x,a.ok x/\aW w S x.cs cs
theorem zd {e:DT}{c:Nat}:∀{n:Nat}{cs:List Value},cs.length=n * c->(∀i,i<n->Good P w S e ((cs.drop (i * c)).take c))->∃a:List X,a.length=n/\(∀y∈a,e.ok y)/\aW w S (X.DP a) cs
 |0,cs,hl,h=>⟨[],rfl,λy hy=>(by cases hy),by
   have:cs=[]:=cy (by omega);subst this;simp only[X.DP,aW]⟩
 |n+1,cs,hl,h=>by
  obtain⟨x,h1,h2⟩:=h 0 (by omega);rw[rL,dj] at h2;have b:(cs.drop c).length=n * c:=by rw[gd,hl,kH];omega
  obtain⟨a,f,g,j⟩:=zd (cs:=cs.drop c) b λi k=>by
   have:=h (i+1) (by omega);rw[pP,show c+i * c=(i+1) * c by rw[kH];omega];exact this
  refine⟨x::a,by simp [f],?_,?_⟩
  ·intro y hy
   rcases bV.1 hy with rfl|hy
   ·exact h1
   ·exact g y hy
  ·simp only[X.DP]
   exact vI h2 j
theorem xq:∀{fs:List Field}{ds:List DT}{o n:Nat}{cs:List Value},zu P o fs n=true->cs.length=n->fs.length=ds.length->(∀(i:Nat) (f:Field) d,fs[i]?=some f->ds[i]?=some d->Good P w S d ((cs.drop f.offset).take (P.cellsOf f.type)))->∃a:List X,DT.PJ ds a/\aW w S (X.DP a) (cs.drop o)
 |[],ds,o,n,cs,hc,hl,cd,h=>by
  cases ds with
  |cons _ _=>cases cd
  |nil=>
   simp only[zu,rN] at hc
   refine⟨[],by simp only[DT.PJ],?_⟩
   rw[cb (by omega)]
   simp only[X.DP,aW]
 |f::fs,ds,o,n,cs,hc,hl,cd,h=>by
  cases ds with
  |nil=>cases cd
  |cons d ds=>
   simp only[zu,cX,rN] at hc
   obtain⟨ho,hc⟩:=hc
   obtain⟨x,j,b⟩:=h 0 f d rfl rfl
   obtain⟨a,k,c⟩:=xq (cs:=cs) hc hl (by simpa using cd) λi g e m l=>h (i+1) g e m l
   refine⟨x::a,by simp only[DT.PJ];exact⟨x,a,rfl,j,k⟩,?_⟩
   simp only[X.DP]
   rw[ho] at b
   rw[<-pP] at c
   exact vI b c
theorem Bt:∀{ts:List TypeId}{ds:List DT},Bs P ts ds=true->ts.length=ds.length/\∀(i:Nat) t d,ts[i]?=some t->ds[i]?=some d->rW P t d=true/\d∈ds
 |[],[],_=>⟨rfl,λi t d h=>by cases h⟩
 |t::ts,d::ds,h=>by
  simp only[Bs,cX] at h;obtain⟨h1,h2⟩:=Bt h.2;refine⟨by simp [h1],λi e a ht hd=>?_⟩;cases i with
  |zero=>
   simp only[lk,iJ] at ht hd
   subst ht hd
   exact⟨h.1,jm⟩
  |succ i=>
   obtain⟨b,c⟩:=h2 i e a (by simpa using ht) (by simpa using hd)
   exact⟨b,dH _ c⟩
 |[],_::_,h=>by simp [Bs] at h
 |_::_,[],h=>by simp [Bs] at h
theorem kB:∀{ts:List TypeId}{ds:List (DataW H)},(DataW.weightsEach P ts ds).all (·<=reachBytes)=true->∀(i:Nat) t d,ts[i]?=some t->ds[i]?=some d->(d.weights P t).all (·<=reachBytes)=true
 |[],_,_,i,t,d,h,_=>by cases h
 |_::_,[],_,i,t,d,_,h=>by cases h
 |t::ts,d::ds,h,i,t',d',ht,hd=>by
  simp only[DataW.weightsEach,wR,cX] at h;cases i with
  |zero=>
   simp only[lk,iJ] at ht hd
   subst ht hd
   exact h.1
  |succ i=>exact kB h.2 i t' d' (by simpa using ht) (by simpa using hd)
include hS in
theorem MK:∀(aDr:Nat) (T:DT) (t:TypeId) (cs:List Value) (x:DataW H×List MemPlace),rW P t T=true->DataW.trod enc P w base aFg aGZ aDr t cs=some x->(x.1.weights P t).all (·<=reachBytes)=true->Good P w S T cs:=by
 intro aDr
 induction aDr with
 |zero=>intro T t cs x _ h;simp [DataW.trod] at h
 |succ aDr ih=>
  intro T t cs x g h A
  cases T with
  |int k=>
   unfold rW at g
   split at g
   ·rename_i k' l
    have:=rD g
    subst this
    obtain⟨n,rfl,hn⟩:=trod_int l h
    refine⟨.int k' n,by simp only[DT.ok];exact⟨n,rfl,hn⟩,?_⟩
    simp only[X.cs,aW,D.is]
    exact⟨_,_,rfl,rfl,rfl,rfl⟩
   ·cases g
  |bool=>
   unfold rW at g
   split at g
   ·rename_i l
    obtain⟨b,rfl⟩:=MJ l h
    refine⟨.bool b,by simp only[DT.ok];exact⟨b,rfl⟩,?_⟩
    simp only[X.cs,aW,D.is]
    exact⟨_,_,rfl,rfl,rfl,rfl⟩
   ·cases g
  |string=>
   unfold rW at g
   split at g
   ·rename_i l
    obtain⟨s,rfl,K⟩:=QL l h
    rw[K] at A
    simp only[DataW.weights,jQ,lh,fu,dF] at A
    have J:s.size<=reachBytes:=by show s.data.size<=reachBytes;rw[<-kW];exact A
    refine⟨.str s,by simp only[DT.ok];exact⟨s,rfl,J⟩,?_⟩
    simp only[X.cs,aW,D.is]
    exact⟨_,_,rfl,rfl,rfl,rfl⟩
   ·cases g
  |slice E rq e=>
   unfold rW at g
   split at g
   ·rename_i te l
    simp only[cX,rN,dF] at g
    obtain⟨⟨⟨ir,a7⟩,ac⟩,I⟩:=g
    rcases DataW.trod_slice l h with⟨rfl,rfl⟩|⟨a,len,aa,al,a5,n,hn,rfl,rfl,hb,hl,hm,R,ak,ar,ap⟩
    ·refine⟨.list E [],by simp only[DT.ok];exact⟨[],rfl,by simp,λy hy=>by cases hy⟩,?_⟩
     simp only[X.cs,X.Kr,aW,D.is]
     exact⟨_,_,rfl,rfl,⟨none,0,rfl,bh _,.inl trivial⟩,rfl⟩
    ·have r:n=aDr:=by omega
     subst r
     simp only[DataW.weights,l,jQ,wR,cX,dF,aS] at A
     obtain⟨a3,J,_⟩:=A
     rw[ac,R] at a3
     have N:∀i,i<len->∃c,w.cells? base (a.add (i * E)) E=some c/\Good P w S e c:=λi u=>by
      have B:=ak i u;rw[ir,az (by omega)] at B;obtain⟨c,h2,h3⟩:=Option.bind_eq_some_iff.1 B;exact⟨c,h2,ih e te c _ I h3 (oZ J _ (cD.2 ⟨_,ao (by omega),rfl⟩))⟩
     obtain⟨z,L,a4⟩:=FF (n:=len) (p:=λi x=>DT.ok e x/\∃c,w.cells? base (a.add (i * E)) E=some c/\aW w S x.cs c) λi u=>by
      obtain⟨c,B,x,h2,h3⟩:=N i u;exact⟨x,h2,c,B,h3⟩
     refine⟨.list E z,?_,?_⟩
     ·simp only[DT.ok]
      refine⟨z,rfl,?_,λy hy=>?_⟩
      ·have:z.length * rq<=(len+a5.length) * rq:=jl _ (by omega)
       exact ma this a3
      ·obtain⟨i,u⟩:=pc hy
       exact(a4 i y u).1
     ·have a6:X.Kr z=[]\/∃b o,some a=some ⟨b,o,none⟩/\S b/\b<w.heap.size/\cK w S b E o (X.Kr z):=by
       rcases wO len with h0|h0
       ·left
        have:z=[]:=cy (by omega);rw[this];rfl
       ·right
        obtain⟨c0,ad,_⟩:=N 0 h0;obtain⟨_,am,ae⟩:=World.cells?_some ad;have G:=ae 0 a7;rw[az (by omega),rL] at G;obtain⟨b,o,sp⟩:=a;have a9:sp=none:=by simpa [Addr.add] using World.cell?_spot G
        subst a9;refine⟨b,o,rfl,hS b,by simpa [Addr.add] using R5 G,?_⟩;refine dV λj el hj=>?_;rw[X.DQ,bg] at hj;obtain⟨x,K,rfl⟩:=El.1 hj;obtain⟨_,c,V,M⟩:=a4 j x K;obtain⟨_,Z,ag⟩:=World.cells?_some V;refine⟨by rw[<-cj M,Z],dD M λq v hq=>?_⟩;have a8:q<E:=by rw[<-Z];exact(gI.1 hq).1
        have:=ag q a8;rw[hq] at this;rw[<-this,Addr.add_lit,Addr.add_lit]
      simp only[X.cs,aW,D.is]
      have a1:(X.Kr z).length=len:=by rw[X.DQ,aS,L]
      refine⟨_,_,rfl,rfl,⟨some a,aa,by rw[a1],by rw[a1];exact hl,a6⟩,rfl⟩
   ·cases g
  |struct ds=>
   unfold rW at g
   split at g
   ·rename_i fs l
    simp only[cX] at g
    obtain⟨V,ha⟩:=g
    obtain⟨z,n,hn,rfl,R,L,K⟩:=DataW.trod_struct l h
    have r:n=aDr:=by omega
    subst r
    obtain⟨ha1,ab⟩:=Bt ha
    simp only[DataW.weights,l] at A
    obtain⟨ys,B,h2⟩:=xq (P:=P) (w:=w) (S:=S) (cs:=cs) V R (by simpa using ha1) λi f d hf hd=>by
     have a0:fs[i]?=some f:=by simpa using hf
     have u:i<z.length:=by
      have:=(jP.1 a0).1;omega
     have h3:=K i f a0;rw[az u] at h3;have a2:(fs.toList.map (·.type))[i]?=some f.type:=by rw[bg,hf];rfl
     exact ih d f.type _ _ (ab i f.type d a2 hd).1 h3 (kB A i f.type _ a2 (by rw[bg,az u] <;> rfl))
    exact⟨.agg ys,by simp only[DT.ok];exact⟨ys,rfl,B⟩,by simpa only[X.cs,dj] using h2⟩
   ·cases g
  |array m e=>
   unfold rW at g
   split at g
   ·rename_i m' te l
    simp only[cX,rN] at g
    obtain⟨⟨rfl,V⟩,I⟩:=g
    obtain⟨z,n,hn,rfl,R,L,K⟩:=DataW.trod_array l h
    have r:n=aDr:=by omega
    subst r
    simp only[DataW.weights,l] at A
    obtain⟨ys,B,h2,h3⟩:=zd (P:=P) (w:=w) (S:=S) (e:=e) (c:=P.cellsOf te) (n:=m') (cs:=cs) (by rw[R,V]) λi u=>by
     have h4:=K i u;rw[az (by omega)] at h4;exact ih e te _ _ I h4 (oZ A _ (cD.2 ⟨_,ao (by omega),rfl⟩))
    exact⟨.agg ys,by simp only[DT.ok];exact⟨ys,rfl,B,h2⟩,by simpa only[X.cs] using h3⟩
   ·cases g
end
theorem sZ {w:World}{S:Nat->Prop}{d:D}{v:Value}{cs:List D}(hc:cs=[d])(h:aW w S cs v.cells.toList)(hv:v.cells= #[v]):D.is w S d v:=by
 subst hc;rw[hv] at h;simp only[aW] at h;obtain⟨u,e,a,_,b,c⟩:=h;subst c;simp only[rI] at a;rw[a.1];exact b
theorem PM {H:Type}{enc:TypeId×Value->H}{P:Program}{w:World}{r:Reach}{base:Nat}{v:Value}{d:DataW H}{p:List MemPlace}(i:DT)(b:rW P t i=true)
  (g:Value.okWide P w r base t v) (h:DataW.Trod enc P w 0 (λ_=>true) true t v d p) (l:(d.weights P t).all (·<=reachBytes)=true):∃x:X,i.ok x/\D.is w aA.none.others x.d v:=by
 obtain⟨aDr,h⟩:=h;obtain⟨x,c,h2⟩:=MK (S:=aA.none.others) (λ_=>rfl) aDr i t v.cells.toList (d,p) b h l;refine⟨x,c,?_⟩;cases i with
 |int k=>
  unfold rW at b
  split at b
  ·rename_i f
   obtain⟨n,rfl⟩:=okWide_int f g
   simp only[DT.ok] at c
   obtain⟨m,rfl,_⟩:=c
   exact sZ rfl h2 rfl
  ·cases b
 |bool=>
  unfold rW at b
  split at b
  ·rename_i f
   obtain⟨n,rfl⟩:=okWide_bool f g
   simp only[DT.ok] at c
   obtain⟨m,rfl⟩:=c
   exact sZ rfl h2 rfl
  ·cases b
 |string=>
  unfold rW at b
  split at b
  ·rename_i f
   obtain⟨n,rfl⟩:=okWide_string f g
   simp only[DT.ok] at c
   obtain⟨m,rfl,_⟩:=c
   exact sZ rfl h2 rfl
  ·cases b
 |slice u s e=>
  unfold rW at b
  split at b
  ·rename_i f
   obtain⟨a,len,j,rfl⟩:=okWide_slice f g
   simp only[DT.ok] at c
   obtain⟨m,rfl,_⟩:=c
   exact sZ rfl h2 rfl
  ·cases b
 |struct o=>
  unfold rW at b
  split at b
  ·rename_i fs f
   simp only[Value.okWide,f] at g
   obtain⟨cs,rfl,_⟩:=g
   simp only[DT.ok] at c
   obtain⟨m,rfl,_⟩:=c
   simp only[X.d,D.is]
   exact⟨cs.toList,by simp,by simpa only[X.cs,Value.cells] using h2⟩
  ·cases b
 |array n e=>
  unfold rW at b
  split at b
  ·rename_i m y f
   simp only[Value.okWide,f] at g
   obtain⟨cs,rfl,_⟩:=g
   simp only[DT.ok] at c
   obtain⟨m,rfl,_⟩:=c
   simp only[X.d,D.is]
   exact⟨cs.toList,by simp,by simpa only[X.cs,Value.cells] using h2⟩
  ·cases b
end Go.Proofs.YtffgfafbffdgaaaGreatDoor
namespace Go.Proofs.YtffgfafbffdgaaaGreatDoor
open Go.RowKit
theorem an {P:Program}{f:FuncId}{args:List D}{H:aA}{x:D}(h:∀a,H.le a->aN P f args a λd H'=>d=x/\a=H'):cP P f args H λd A=>A=aA.none/\d=x:=
 wk h λ_ _ _ b=>⟨.none,nt _,b.2.symm,rfl,b.1⟩
theorem Hu {x:X}(h:DT.ok (.int .i64) x):∃n:Int,x=.int .i64 n/\ -9223372036854775808<=n/\n<=9223372036854775807:=by
 simp only[DT.ok] at h;obtain⟨n,rfl,a⟩:=h;simp [Lit.wf,IntKind.min,IntKind.max,IntKind.signed,IntKind.bits] at a;exact⟨n,rfl,by omega⟩
def xI (n:Int):X:=.int .i64 n
def du (n:Int):Prop:= -9223372036854775808<=n/\n<=9223372036854775807
end Go.Proofs.YtffgfafbffdgaaaGreatDoor
namespace Go.Proofs.YtffgfafbffdgaaaGreatDoor
open Go.Maps (Keyed)
open Go.RowKit
variable {H0 H:aA}{e k:TypeId}{sz:Nat}{els:List (List D)}{d:D}{ob:Option Nat}{m:List (Value×D)}{f:Int->Option D}
theorem jz {o:Cx}{c:Code}{Q:Exit->St->Prop}{s:St}(I:Nat->St->Prop)(n:Nat)(h0:I n s)
  (round:∀k s,I k s->W o c (dR (λb=>∃a,LtN a k/\I a b) Q) s):W o (.loop c) Q s:=by
 have r:∀s:St,(∃k,I k s)->I (Classical.epsilon λk=>I k s/\∀j,I j s->k<=j) s/\∀j,I j s->(Classical.epsilon λk=>I k s/\∀j,I j s->k<=j)<=j:=λs h=>
  Em (p:=λk=>I k s/\∀j,I j s->k<=j) (Od (λk=>I k s) h)
 refine Mi (λs=>∃k,I k s) (λs=>Classical.epsilon λk=>I k s/\∀j,I j s->k<=j) s.H (aF _) ⟨n,h0⟩ ?_;rintro s1 i;obtain⟨t,u⟩:=r s1 i;refine nA (round _ s1 t) λe b q=>?_;cases e with
 |normal=>
  obtain⟨a,l,g⟩:=q
  refine⟨b.H,aF _,⟨a,g⟩,?_⟩
  exact Nat.lt_of_le_of_lt ((r b ⟨a,g⟩).2 a g) l
 |_=>exact q
def Gk (H0:aA) (e:TypeId) (sz:Nat) (els:List (List D)) (d:D) (H:aA) (ob:Option Nat):Prop:=
 (ob=none/\d=.val (.slice none 0 0)/\els=[])\/∃c o k a,ob=some c/\d=.os c o sz k els.length/\H0 c=none/\H c=some (.row e o sz a)/\a.drop k=els/\k<=a.length
theorem Gk.of (h:Gl H0 e sz els d H ob):Gk H0 e sz els d H ob:=by
 rcases h with h|⟨c,o,a,b,g,i⟩
 ·exact .inl h
 ·exact .inr ⟨c,o,0,els,a,b,g,i,rfl,jY _⟩
theorem Gk.cM {H':aA}(h:Gk H0 e sz els d H ob)(hk:∀c,ob=some c->H' c=H c):Gk H0 e sz els d H' ob:=by
 rcases h with h|⟨c,o,k,a,b,g,i,j,l,n⟩
 ·exact .inl h
 ·exact .inr ⟨c,o,k,a,b,g,i,(hk c b).trans j,l,n⟩
theorem Gk.cells (h:Gk H0 e sz els d H ob):D.cells d=some [d]:=by rcases h with⟨_,rfl,_⟩|⟨c,o,_,_,_,rfl,_⟩ <;> rfl
theorem Gk.cons {x:List D}(h:Gk H0 e sz (x::els) d H ob):∃c o k a,ob=some c/\d=.os c o sz k (els.length+1)/\H0 c=none/\H c=some (.row e o sz a)/\a.drop k=x::els/\k<=a.length/\a[k]?=some x/\a.drop (k+1)=els/\k+1<=a.length:=by
 rcases h with⟨_,_,h⟩|⟨c,o,k,a,j,h2,l,n,g,p⟩
 ·cases h
 ·have b:k<a.length:=by
   have:=ai List.length g;rw[gd,bx] at this;omega
  rw[cL b] at g
  injection g with g i
  exact⟨c,o,k,a,j,by simpa using h2,l,n,by rw[cL b,g,i],p,by rw[az b,g],i,b⟩
theorem Br {P:Program}{H0 H:aA}{t xt e:TypeId}{A G:Ti}{sz w:Nat}{I:List Value}{M:TD}{els new:List (List D)}{x y:D}{K:D->aA->Prop}{ob:Option Nat}
  (h1:cG P t=some A) (g:A.d=.slice e) (h2:cG P xt=some G) (j:G.d.gX=true) (h3:cG P e=some ⟨M,sz,w,some I⟩) (s:I.length=sz) (p:w≠0)
  (v:H0.le H) (hs:Gk H0 e sz els x H ob) (hy:gP H sz y (·=new)) (hb:(els.length+new.length) * w<=140737488355328)
  (hk:∀d H' u,Gl H0 e sz (els++new) d H' u->H0.le H'->(∀b z,H b=some z->ob≠some b->H' b=some z/\u≠some b)->K d H'):Gz P H t xt x y K:=by
 rcases hs with hs|⟨c,o,k,J,rfl,rfl,r,S,B,T⟩
 ·exact ax h1 g h2 j h3 s p v (.inl hs) hy hb hk
 ·obtain⟨d0,Z,j0,k0⟩:=A
  simp only at g;subst g;unfold Go.Proofs.YtffgfafbffdgaaaGreatDoor.Gz;rw[h1,h2];simp only;refine⟨j,?_⟩;rw[h3];simp only;refine⟨s,p,Fv hy ?_⟩;refine⟨trivial,hb,?_⟩;rw[S];simp only;have L:=ai List.length B;rw[gd] at L;refine⟨trivial,trivial,trivial,by omega,λi V a=>?_⟩;have N:H0 i=none:=by
   cases hx:H0 i with
   |none=>rfl
   |some x=>
    have R:=v _ _ hx
    have h:i≠c:=λe=>by rw[e,r] at hx;cases hx
    rw[bL h,R] at a;cases a
  refine hk _ _ (some i) (.inr ⟨i,V,rfl,by rw[aV],N,?_⟩) (j5 (aA.AW v r) a) λb z E h=>?_
  ·rw[aK,B,dI]
  ·have n:b≠c:=λe=>h (by rw[e])
   have l:b≠i:=λe=>by rw[<-e,bL n,E] at a;cases a
   exact⟨by rw[aJ l,bL n];exact E,λe=>l (by injection e with e;exact e.symm)⟩
structure fZ (m:List (Value×D)) (f:Int->Option D):Prop where
 keys:∀p∈m,∃x:Int,(-9223372036854775808<=x/\x<=9223372036854775807)/\p.1=.int .i64 x
 get:∀x:Int,iC m (.int .i64 x)=f x
theorem fZ.nil:fZ [] λ_=>Option.none:=⟨(λp a=>by cases a),(λx=>rfl)⟩
theorem vf:∀{m:List (Value×D)}{x:Value}{d:D}{p:Value×D},p∈eJ m x d->p=(x,d)\/p∈m
 |[],x,d,p,h=>by simp only[eJ,bM] at h;exact .inl h
 |q::m,x,d,p,h=>by
  simp only[eJ] at h;split at h
  ·rcases bV.1 h with h|h
   ·exact .inl h
   ·exact .inr (dH _ h)
  ·rcases bV.1 h with h|h
   ·exact .inr (h▸jm)
   ·rcases vf h with h|h
    ·exact .inl h
    ·exact .inr (dH _ h)
theorem fZ.set (h:fZ m f){x:Int}(hx: -9223372036854775808<=x/\x<=9223372036854775807)(d:D):fZ (eJ m (.int .i64 x) d) λy=>if y=x then some d else f y where
 keys:=λp hp=>by
  rcases vf hp with rfl|hp
  ·exact⟨x,hx,rfl⟩
  ·exact h.keys p hp
 get:=λy=>by
  by_cases e:y=x
  ·subst e;rw[jJ,aD rfl]
  ·rw[n9 _ _ (λhe=>e (by injection he with _ he;exact he.symm)),aC e];exact h.get y
theorem kn {P:Program}(hk:P.underlying k=some (.int .i64)){x:Int}(hx: -9223372036854775808<=x/\x<=9223372036854775807):∃l,keyOf P k (.int .i64 x)=some l:=by
 unfold keyOf;rw[hk];simp only[mapKey,hk];rw[aD ⟨trivial,by simp [Lit.wf,IntKind.min,IntKind.max,IntKind.signed,IntKind.bits];omega⟩];exact⟨_,rfl⟩
theorem fZ.ok {P:Program}(hk:P.underlying k=some (.int .i64))(h:fZ m f){x:Int}(hx: -9223372036854775808<=x/\x<=9223372036854775807):SP P k m (.int .i64 x):=
 ⟨Go.Maps.int_keyed hk,kn hk hx,λp a=>by obtain⟨y,b,e⟩:=h.keys p a;rw[e];exact kn hk b⟩
theorem fZ.congr {g:Int->Option D}(h:fZ m f)(a:∀x,f x=g x):fZ m g:=⟨h.keys,λx=>(h.get x).trans (a x)⟩
end Go.Proofs.YtffgfafbffdgaaaGreatDoor
namespace Go.Proofs.YtffgfafbffdgaaaGreatDoor
open Go.RowKit
variable {n id j t b sz k:Nat}{o:Oper}{cx:Cx}{aY aDf:List Oper}{s:St}{aDh:Bool}{x y:Code}{P:Program}{H H0 H':aA}{els:List (List D)}{f:FuncId}
def nQ (N:St->Prop):Exit->St->Prop
 | .normal,s=>N s
 |_,_=>False
theorem aCk (N:St->Prop)(s:St):nQ N .normal s=N s:=rfl
theorem Jf {N:St->Prop}{Q:Exit->St->Prop}(h:∀s,N s->Q .normal s):∀e s,nQ N e s->Q e s:=λe s q=>by cases e <;> first|exact h s q|exact q.elim
def x6 (cx:Cx) (aY:Array Oper) (Q:Exit->St->Prop):List Oper->St->Prop
 |[],s=>Q .normal s
 |o::aDf,s=>(match o.guard with
  |none=>pG cx o s λa=>if fh o.op then WL cx aY aDf Q a else x6 cx aY Q aDf a
  |some _=>WL cx aY (o::aDf) Q s)
def x7 (cx:Cx) (aY:Array Oper) (Q:Exit->St->Prop):List Oper->St->Prop
 |[],s=>Q .normal s
 |o::aDf,s=>(match o.guard with
  |none=>cU cx o s λa=>if fh o.op then WL cx aY aDf Q a else x7 cx aY Q aDf a
  |some _=>WL cx aY (o::aDf) Q s)
theorem A9 {l:List Oper}(hl:dQ n (o::l)=true):qP n o.dst/\dQ n l=true:=by
 simp only[dQ,jQ,cX] at hl;refine⟨?_,hl.2⟩;have:=hl.1;unfold qP;cases ho:o.dst with
 |none=>trivial
 |some t=>rw[ho] at this;simpa using this
theorem lZ {Q:Exit->St->Prop}:∀{l:List Oper}{s:St},dQ cx.n l=true->x6 cx aY.toArray Q l s->WL cx aY.toArray l Q s
 |[],s,_,h=>Cw h
 |o::aDf,s,hl,h=>by
  obtain⟨hd,hr⟩:=A9 hl;simp only[x6] at h;split at h
  ·rename_i c
   refine lA c (sX (pH hd h) λe a=>?_);split at a
   ·exact a
   ·exact lZ hr a
  ·exact h
theorem qw {Q:Exit->St->Prop}:∀{l:List Oper}{s:St},dQ cx.n l=true->x7 cx aY.toArray Q l s->WL cx aY.toArray l Q s
 |[],s,_,h=>Cw h
 |o::aDf,s,hl,h=>by
  obtain⟨hd,hr⟩:=A9 hl;simp only[x7] at h;split at h
  ·rename_i c
   refine lA c (sX (kQ hd h) λe a=>?_);split at a
   ·exact a
   ·exact qw hr a
  ·exact h
theorem V2 {Q:Exit->St->Prop}(a:dQ cx.n aY=true)(h:∀N:St->Prop,(∀s,Q .normal s->N s)->x6 cx aY.toArray (nQ N) aY s):W cx (.region id aY.toArray false) Q s:=
 nA (uz (lZ a (h (Q .normal) λ_ h=>h))) (Jf λ_ h=>h)
theorem V3 {Q:Exit->St->Prop}(a:dQ cx.n aY=true)(h:∀N:St->Prop,(∀s,Q .normal s->N s)->x7 cx aY.toArray (nQ N) aY s):W cx (.region id aY.toArray false) Q s:=
 nA (uz (qw a (h (Q .normal) λ_ h=>h))) (Jf λ_ h=>h)
def gS (cx:Cx) (o:Oper) (s:St) (t:Nat) (aDh:Bool) (d:D) (N:St->Prop):Prop:=
 match d with
 | .val (.bool b)=>qj (b==aDh) (pG cx o s N) (N (s.put o.dst (.val undef)))
 | .val (.tuple ⟨[]⟩)=>N (s.put o.dst (.val undef))
 |_=>False
def gT (cx:Cx) (o:Oper) (s:St) (t:Nat) (aDh:Bool) (d:D) (N:St->Prop):Prop:=
 match d with
 | .val (.bool b)=>qj (b==aDh) (cU cx o s N) (N (s.put o.dst (.val undef)))
 | .val (.tuple ⟨[]⟩)=>N (s.put o.dst (.val undef))
 |_=>False
theorem U7 {Q:Exit->St->Prop}{s:St}(hg:o.guard=some (j,aDh))(hj:j9 aY.toArray j=some t)(e:dQ cx.n aY=true)(hl:dQ cx.n (o::aDf)=true)
  {d:D}(hd:s.fr t=d) (h:(∃b,d=.val (.bool b)/\(b=aDh->WO cx o (WL cx aY.toArray aDf Q) s)/\(b= !aDh->WL cx aY.toArray aDf Q (s.put o.dst (.val undef))))\/(d=.val undef/\WL cx aY.toArray aDf Q (s.put o.dst (.val undef)))):WL cx aY.toArray (o::aDf) Q s:=by
 obtain⟨a,i⟩:=A9 hl;have c:t<cx.n:=by
  unfold j9 at hj;cases hq:aY.toArray[j]? with
  |none=>rw[hq] at hj;cases hj
  |some g=>
   rw[hq] at hj
   have:=(dK.1 e) g (by have:=tJ hq;simpa using this)
   simp at hj
   rw[hj] at this
   simpa using this
 refine pj hg hj c (fI a) ?_;rw[hd];exact h
theorem Mf {Q:Exit->St->Prop}{s:St}(hg:o.guard=some (j,aDh))(hj:j9 aY.toArray j=some t)(c:dQ cx.n aY=true)(hl:dQ cx.n (o::aDf)=true)
  (h:∀N:St->Prop,(∀s,WL cx aY.toArray aDf Q s->N s)->gS cx o s t aDh (s.fr t) N):WL cx aY.toArray (o::aDf) Q s:=by
 have h:=h (WL cx aY.toArray aDf Q) λ_ h=>h;refine U7 hg hj c hl rfl ?_;unfold gS at h;split at h
 ·rename_i b a
  rw[oY] at h;exact .inl ⟨b,a,λe=>pH (A9 hl).1 (h.1 e),h.2⟩
 ·rename_i a
  exact .inr ⟨a,h⟩
 ·exact h.elim
theorem YF {Q:Exit->St->Prop}{s:St}(hg:o.guard=some (j,aDh))(hj:j9 aY.toArray j=some t)(c:dQ cx.n aY=true)(hl:dQ cx.n (o::aDf)=true)
  (h:∀N:St->Prop,(∀s,WL cx aY.toArray aDf Q s->N s)->gT cx o s t aDh (s.fr t) N):WL cx aY.toArray (o::aDf) Q s:=by
 have h:=h (WL cx aY.toArray aDf Q) λ_ h=>h;refine U7 hg hj c hl rfl ?_;unfold gT at h;split at h
 ·rename_i b a
  rw[oY] at h;exact .inl ⟨b,a,λe=>kQ (A9 hl).1 (h.1 e),h.2⟩
 ·rename_i a
  exact .inr ⟨a,h⟩
 ·exact h.elim
theorem Ib {Q:Exit->St->Prop}{c:Operand}(h:∀A B:Prop,(W cx x Q s->A)->(W cx y Q s->B)->mF (s.ev c) A B):W cx (.cond c x y) Q s:=
 YG (h _ _ (λh=>h) λh=>h)
def Q3 (P:Program) (G:Option Tmp->List D->D->aA->Prop) (H:aA) (aY:Array Oper) (Q:St->Prop):List Oper->St->Prop
 |[],s=>Q s
 |o::aDf,s=>(match o.guard with
  |none=>dh P G H s o λd A=>jn A s.H->Q3 P G H aY Q aDf (s.out o d A)
  |some _=>yx P G H aY Q (o::aDf) s)
theorem Eh {G:Option Tmp->List D->D->aA->Prop}{aY:Array Oper}{Q:St->Prop}:∀{l:List Oper}{s:St},Q3 P G H aY Q l s->yx P G H aY Q l s
 |[],s,h=>h
 |o::aDf,s,h=>by
  simp only[Q3] at h;split at h
  ·rename_i hg
   show mG P G H aY s o _;unfold mG;rw[hg];exact(vH P G H s o).2 _ _ (λd A hk hd=>Eh (hk hd)) h
  ·exact h
def gdY (P:Program) (G:Option Tmp->List D->D->aA->Prop) (H:aA) (s:St) (o:Oper) (aDh:Bool) (d:D) (K:D->aA->Prop):Prop:=
 match d with
 | .val (.bool b)=>qj (b==aDh) (dh P G H s o K) (K (.val undef) .none)
 | .val (.tuple ⟨[]⟩)=>K (.val undef) .none
 |_=>False
theorem aBN {P:Program}{G:Option Tmp->List D->D->aA->Prop}{H:aA}{Q:St->Prop}{aDf:List Oper}{s:St}(hg:o.guard=some (j,aDh))(hj:j9 aY.toArray j=some t)
  (h:∀N:St->Prop,(∀s,yx P G H aY.toArray Q aDf s->N s)->gdY P G H s o aDh (s.fr t) λd A=>jn A s.H->N (s.out o d A)):yx P G H aY.toArray Q (o::aDf) s:=by
 have h:=h (yx P G H aY.toArray Q aDf) λ_ h=>h;show mG P G H aY.toArray s o _;unfold mG;rw[hg];simp only[hj];unfold gdY at h;exact h
theorem I9 {id:Nat}{Q:Exit->St->Prop}{s:St}(G:Option Tmp->List D->D->aA->Prop)(hm:cx.P.follows .mixedOrders=true)(a:dQ cx.n aY=true)(c:ow aY=true)
  (h:∀N:St->Prop,(∀s,Q .normal s->N s)->yx cx.P G s.H aY.toArray N aY s):W cx (.region id aY.toArray true) Q s:=
 nA (Cz (Q:=nQ (Q .normal)) G hm a c (h (Q .normal) λ_ h=>h)) (Jf λ_ h=>h)
def IZ (P:Program) (a c:Option Tmp->Bool) (G:Option Tmp->List D->D->aA->Prop) (GW:Option Tmp->List D->aA->D->aA->Prop) (aY:Array Oper) (Q:St->Prop):aA->List Oper->St->Prop
 |_,[],s=>Q s
 |H,o::aDf,s=>(match o.guard with
  |none=>if fi c o=true then jk P GW s o λd H'=>IZ P a c G GW aY Q H' aDf (s.jg o d H')
   else dh P G (rP a H o) s o λd A=>jn A s.H->IZ P a c G GW aY Q H aDf (s.out o d A)
  |some _=>ug P a c G GW aY Q H (o::aDf) s)
theorem Ej {c e:Option Tmp->Bool}{G:Option Tmp->List D->D->aA->Prop}{GW:Option Tmp->List D->aA->D->aA->Prop}{aY:Array Oper}{Q:St->Prop}:∀{l:List Oper}{H:aA}{s:St},IZ P c e G GW aY Q H l s->ug P c e G GW aY Q H l s
 |[],H,s,h=>h
 |o::aDf,H,s,h=>by
  simp only[IZ] at h;split at h
  ·rename_i hg
   unfold ug;split at h
   ·rename_i a
    rw[aD a];unfold gW;rw[hg];exact(BN P GW s o).2 _ _ (λd A hk=>Ej hk) h
   ·rename_i a
    rw[aC a];unfold mG;rw[hg];exact(vH P G _ s o).2 _ _ (λd A hk hd=>Ej (hk hd)) h
  ·exact h
theorem RM {id:Nat}{aY:List Oper}{Q:Exit->St->Prop}{s:St}(a c:Option Tmp->Bool)(G:Option Tmp->List D->D->aA->Prop)(GW:Option Tmp->List D->aA->D->aA->Prop)(hm:cx.P.follows .mixedOrders=true)
  (g:dQ cx.n aY=true) (i:ow aY=true) (l:BD aY (yI aY)=true) (e:GB a c aY (yI aY)=true)
  (h:∀N:St->Prop,(∀s,Q .normal s->N s)->ug cx.P a c G GW aY.toArray N s.H aY s):W cx (.region id aY.toArray true) Q s:=
 nA (V5 (Q:=nQ (Q .normal)) a c G GW hm g i l e (h (Q .normal) λ_ h=>h)) (Jf λ_ h=>h)
theorem dE {Q:Exit->St->Prop}(G:Option Tmp->List D->D->aA->Prop)(h:∀N:St->Prop,(∀s,Q .normal s->N s)->yx cx.P G s.H aY.toArray N aY s)(hm:cx.P.follows .mixedOrders=true:=by kernel_rfl)(dC:dQ cx.n aY=true:=by kernel_rfl)(jr:ow aY=true:=by kernel_rfl):W cx (.region id aY.toArray true) Q s:=I9 G hm dC jr h
theorem wE {id:Nat}{Q:Exit->St->Prop}(fl wc:Option Tmp->Bool)(G:Option Tmp->List D->D->aA->Prop)(GW:Option Tmp->List D->aA->D->aA->Prop)(h:∀N:St->Prop,(∀s,Q .normal s->N s)->IZ cx.P fl wc G GW aY.toArray N s.H aY s)
  (hm:cx.P.follows .mixedOrders=true:=by kernel_rfl) (dC:dQ cx.n aY=true:=by kernel_rfl) (jr:ow aY=true:=by kernel_rfl) (xE:BD aY (yI aY)=true:=by kernel_rfl) (HU:GB fl wc aY (yI aY)=true:=by kernel_rfl):W cx (.region id aY.toArray true) Q s:=RM fl wc G GW hm dC jr xE HU λN hN=>Ej (h N hN)
theorem Gu {Q:Exit->St->Prop}(t:Nat)(d0 d:D)(hi:U2 d0 d)(M:St->Prop)(h1:W cx x (dR (λa=>M a\/(a.fr t=d0/\M (a.put (some t) d))) (λ_ _=>False)) s)(h2:∀s,M s->W cx y Q s):W cx (.seq x y) Q s:=
 Ic _ h1 λa h=>by
  rcases h with h|⟨h,e⟩
  ·exact h2 a h
  ·exact RK t d (λw v c=>hi _ _ _ (by rw[h] at c;exact c)) (h2 _ e)
theorem Iv {o:Nat}{t:TypeId}(h:H b=some (.row t o sz els))(hn:n=els.length):gy H sz (.os b o sz 0 n) (·=els):=by
 subst hn;simp only[gy,h,dj,dI];exact⟨trivial,trivial,trivial,by omega,trivial⟩
def Es (H0 H':aA):Prop:=∀b,H' b=none->H0 b=none
theorem nE (h:Es H0 H')(w:World):Ev H' w H0 w:=⟨rfl,rfl,rfl,bh _,λb _ c=>⟨rfl,h b c⟩,λ_ _ _ a h=>⟨_,a,h,rfl⟩⟩
theorem AM {d:D}(h:Es H0 H'):uq H0 H' d d:=λw v _ a=>j6 (nE h w).kept d a
theorem Nz {o:Nat}{ty:TypeId}(hd:Es H0 H')(hb:H' b=some (.row ty o sz els))(h0:H0 b=none)(hn:k+n<=els.length):uq H0 H' (.os b o sz k n) (.seq sz ((els.drop k).take n)):=λw v h i=>by
 have a:Es H0 (H'.del b):=λc g=>by
  by_cases e:c=b
  ·rw[e];exact h0
  ·rw[bL e] at g;exact hd c g
 exact j6 (nE a w).kept _ (AL h hb hn i)
theorem yK {w:World}(a:eF w H'){g:Value->D}:∀{m:List (Value×D)}{vs:List Value},(∀p∈m,uq H0 H' p.2 (g p.1))->aT w H'.others (m.map (·.2)) vs->aT w H0.others ((m.map λp=>(p.1,g p.1)).map (·.2)) vs
 |[],vs,_,h=>by simp only[fw,aT] at h ⊢;exact h
 |p::m,vs,hf,h=>by
  simp only[cC,aT] at h ⊢;obtain⟨u,us,rfl,h1,h2⟩:=h;exact⟨u,us,rfl,hf p (by simp) w u a h1,yK a (λq c=>hf q (by simp [c])) h2⟩
theorem xy:∀{m:List (Value×D)}{p:Value×D},(m.map (·.1)).Nodup->p∈m->iC m p.1=some p.2
 |[],p,_,h=>by cases h
 |q::m,p,hn,h=>by
  rw[cC,pO] at hn;simp only[iC];rcases bV.1 h with rfl|h
  ·rw[aD rfl]
  ·rw[aC λ(e:q.1=p.1)=>hn.1 (by rw[e];exact wM (f:=(·.1)) h)]
   exact xy hn.2 h
theorem CY (g:Value->D):∀(m:List (Value×D)) (x:Value),iC (m.map λp=>(p.1,g p.1)) x=(iC m x).map λ_=>g x
 |[],x=>rfl
 |q::m,x=>by
  simp only[cC,iC];by_cases e:q.1=x
  ·rw[aD e,aD e,e];rfl
  ·rw[aC e,aC e];exact CY g m x
theorem fZ.aCj {m:List (Value×D)}{f:Int->Option D}(h:fZ m f)(g:Value->D):fZ (m.map λp=>(p.1,g p.1)) λx=>(f x).map λ_=>g (.int .i64 x) where
 keys:=λp hp=>by
  obtain⟨q,hq,rfl⟩:=cD.1 hp;exact h.keys q hq
 get:=λx=>by rw[CY,h.get]
theorem eF.xQ {w:World}(hd:Es H0 H')(c:eF w H')
  (h:∀b x,H0 b=some x->H' b=some x\/∃(m:List (Value×D)) (g:Value->D),H' b=some (.map m)/\x=.map (m.map λp=>(p.1,g p.1))/\((m.map (·.1)).Nodup->∀p∈m,uq H0 H' p.2 (g p.1))):eF w H0:=λb x B=>by
 rcases h b x B with h|⟨m,g,z,rfl,A⟩
 ·exact(nE hd w).jb rfl (c b x h)
 ·obtain⟨v,a,i,l,r,e,u⟩:=c b _ z
  refine⟨v,a,i,?_,yK c (A e) r,?_⟩
  ·rw[l,gL];rfl
  ·rw[gL];exact⟨e,u⟩
theorem aN.xQ {ds:List D}{K i:D->aA->Prop}(h:aN P f ds H K)
  (hk:∀d H',K d H'->∃d0 H0,Es H0 H'/\(∀w,eF w H'->eF w H0)/\uq H0 H' d d0/\i d0 H0):aN P f ds H i:=
 And.intro h.1 λw I G A z=>(h.2 w I G A z).mono λe g ⟨v,d,H',E,B,a,l,c⟩=>by
  obtain⟨d0,H0,m,p,r,u⟩:=hk d H' c;exact⟨v,d0,H0,E,r g v a B,p g a,l.trans (nE m g),u⟩
def i64 (n:Int):D:=.val (.int .i64 n)
theorem wS (i:Nat)(h: -9223372036854775808<=(i:Int)+1/\(i:Int)+1<=9223372036854775807:=by omega):IntKind.i64.wrap ((i:Int)+1)=((i+1:Nat):Int):=by rw[aP h];omega
theorem lm {a c:Type}(f:a->c)(l:List a):(List.map f l).length=l.length:=aS _
theorem lF (i n:Nat)(h:n<=i:=by omega):((i:Int)<(n:Int))=False:=aI (by omega)
theorem lT (i n:Nat)(h:i<n:=by omega):((i:Int)<(n:Int))=True:=aG (by omega)
theorem WK {P Q:Prop}(hq:Q)(h:Q->P:=by intro h;simp (maxSteps:=4000000) only[vX,vB,vT,vZ,ij,fh,Fp,yk,AX,gV,fE,fj,↓iR,yb,cU,DJ,ze,By,oi,od,pn,po,ki,j8,kh,ic,D.nilPtr,D.iM,D.iF,fH,Bj,CE,wX,gy,jw,fieldsOf,gU,B6,B7,B8,B9,sL,BT,D.cells,jx,DE,DB,pv,eK,eH,B3,BR,jd,EC,rS,Be,gP,TD.gX,TD.agg,Eo,rU,oe,FI,nZ,pY,pX,Ba,B5,mF,pZ,dR,eT,Value.oneCell',iX,iV,gp,reduceCtorEq,kY,iZ,dN,dY,↓reduceIte,Nat.reduceEqDiff,Int.reduceLE,Int.reduceLT,Int.reduceNeg,Int.reduceToNat,Nat.reduceAdd,Nat.reduceMul,Nat.reduceLeDiff,Nat.reduceMod,Nat.reduceSub,Int.reduceEq,Int.reduceNe,Int.reduceAdd,Int.reduceSub,Int.reduceMul,iW,cR,cO,cE,au,cF,fW,cp,eU,fK,fL,fQ,fR,fP,nJ,pG,YT,aCk,x6,x7,gS,gT,i64,fs];exact h):P:=h hq
theorem Rw {P Q:Prop}(hq:Q)(h:Q->P:=by intro h;simp (maxSteps:=4000000) only[vX,vB,vT,vZ,ij,fh,Fp,yk,AX,gV,fE,fj,↓iR,yb,cU,DJ,ze,By,oi,od,pn,po,ki,j8,kh,ic,D.nilPtr,D.iM,D.iF,fH,Bj,CE,wX,gy,jw,fieldsOf,gU,B6,B7,B8,B9,sL,BT,D.cells,jx,DE,DB,pv,eK,eH,B3,BR,jd,EC,rS,Be,gP,TD.gX,TD.agg,Eo,rU,oe,FI,nZ,pY,pX,Ba,B5,mF,pZ,dR,eT,Value.oneCell',iX,iV,gp,reduceCtorEq,kY,iZ,dN,dY,↓reduceIte,Nat.reduceEqDiff,Int.reduceLE,Int.reduceLT,Int.reduceNeg,Int.reduceToNat,Nat.reduceAdd,Nat.reduceMul,Nat.reduceLeDiff,Nat.reduceMod,Nat.reduceSub,Int.reduceEq,Int.reduceNe,Int.reduceAdd,Int.reduceSub,Int.reduceMul,iW,cR,cO,cE,au,cF,fW,cp,eU,fK,fL,fQ,fR,fP,nJ,pG,YT,i64,fs];exact h):P:=h hq
theorem evG {P Q:Prop}(hq:Q)(h:Q->P:=by intro h;simp (maxSteps:=4000000) only[vX,vB,vT,vZ,ij,fh,Fp,yk,AX,gV,fE,fj,↓iR,yb,cU,DJ,ze,By,oi,od,pn,po,ki,j8,kh,ic,D.nilPtr,D.iM,D.iF,fH,Bj,CE,wX,gy,jw,fieldsOf,gU,B6,B7,B8,B9,sL,BT,D.cells,jx,DE,DB,pv,eK,eH,B3,BR,jd,EC,rS,Be,gP,TD.gX,TD.agg,Eo,rU,oe,FI,nZ,pY,pX,Ba,B5,mF,pZ,dR,eT,Value.oneCell',iX,iV,gp,reduceCtorEq,kY,iZ,dN,dY,↓reduceIte,Nat.reduceEqDiff,Int.reduceLE,Int.reduceLT,Int.reduceNeg,Int.reduceToNat,Nat.reduceAdd,Nat.reduceMul,Nat.reduceLeDiff,Nat.reduceMod,Nat.reduceSub,Int.reduceEq,Int.reduceNe,Int.reduceAdd,Int.reduceSub,Int.reduceMul,iW,cR,cO,cE,au,cF,fW,cp,eU,fK,fL,fQ,fR,fP,i64,fs];exact h):P:=h hq
theorem uj {P Q:Prop}(hq:Q)(h:Q->P:=by intro h;simp (maxSteps:=4000000) only[vX,vB,vT,vZ,ij,fh,Fp,yk,AX,gV,fE,fj,↓iR,yb,cU,DJ,ze,By,oi,od,pn,po,ki,j8,kh,ic,D.nilPtr,D.iM,D.iF,fH,Bj,CE,wX,gy,jw,fieldsOf,gU,B6,B7,B8,B9,sL,BT,D.cells,jx,DE,DB,pv,eK,eH,B3,BR,jd,EC,rS,Be,gP,TD.gX,TD.agg,Eo,rU,oe,FI,nZ,pY,pX,Ba,B5,mF,pZ,dR,eT,Value.oneCell',iX,iV,gp,reduceCtorEq,kY,iZ,dN,dY,↓reduceIte,Nat.reduceEqDiff,Int.reduceLE,Int.reduceLT,Int.reduceNeg,Int.reduceToNat,Nat.reduceAdd,Nat.reduceMul,Nat.reduceLeDiff,Nat.reduceMod,Nat.reduceSub,Int.reduceEq,Int.reduceNe,Int.reduceAdd,Int.reduceSub,Int.reduceMul,iW,cR,cO,cE,au,cF,fW,cp,eU,fK,fL,fQ,fR,fP,Q3,IZ,gdY,dh,St.out,jX,kI,jS,lG,iJ,or_true,true_or,or_false,pS,↓zi,↓Q7,rP,F1,dq,fi,jk,St.jg,i64,fs];exact h):P:=h hq
theorem tS {Q:Exit->St->Prop}(h:∀N:St->Prop,(∀s,Q .normal s->N s)->x6 cx aY.toArray (nQ N) aY s)(dC:dQ cx.n aY=true:=by kernel_rfl):W cx (.region id aY.toArray false) Q s:=V2 dC h
theorem tT {Q:Exit->St->Prop}(h:∀N:St->Prop,(∀s,Q .normal s->N s)->x7 cx aY.toArray (nQ N) aY s)(dC:dQ cx.n aY=true:=by kernel_rfl):W cx (.region id aY.toArray false) Q s:=V3 dC h
theorem Ud {P:Prop}(h:∀N:St->Prop,(∀s,N s->N s)->P):P:=h (λ_=>True) λ_ h=>h
theorem tq {F P Q:Prop}(fs:F) (hq:Q) (h:F->Q->P:=by
 intro fs h;(repeat(first|(refine sd _ ?_;try clear sd G1)|(refine tX _ ?_;try clear tX N1)|refine C _ ?_|refine Y _ ?_|refine z8 ?_|refine zY ?_|refine zZ ?_|refine uy ?_|refine vA ?_|refine nP ?_|refine bW ?_|((first|refine tS λN1 tX=>?_|refine Mf rfl rfl (by kernel_rfl) (by kernel_rfl) λG1 sd=>?_|refine lZ (by kernel_rfl) ?_|refine Ib λA1 B1 Dj HT=>?_);refine WK ?_;(first|(refine sd _ ?_;try clear sd G1)|(refine tX _ ?_;try clear tX N1)|refine C _ ?_|refine Y _ ?_|(refine Dj ?_;try clear Dj HT A1 B1)|(refine HT ?_;try clear Dj HT A1 B1)|skip))));(first|(revert sd;revert G1)|(have sd:=C;revert sd;generalize O=G1;revert G1)|refine Ud ?_);(first|(revert tX;revert N1)|(have tX:=Y;revert tX;generalize U=N1;revert N1)|refine Ud ?_);exact h):P:=h fs hq
theorem t0 {P Q:Prop}(hq:Q) (h:Q->P:=by
 intro h;refine tq trivial ?_;exact h):P:=h hq
theorem tk {F P Q:Prop}(fs:F) (hq:Q) (h:F->Q->P:=by
 intro fs h;(first|(refine sd _ ?_;try clear sd G1)|(refine tX _ ?_;try clear tX N1)|refine C _ ?_|refine Y _ ?_|refine z8 ?_|refine zY ?_|refine zZ ?_|refine uy ?_|refine vA ?_|refine nP ?_|refine bW ?_|((first|refine tS λN1 tX=>?_|refine Mf rfl rfl (by kernel_rfl) (by kernel_rfl) λG1 sd=>?_|refine lZ (by kernel_rfl) ?_|refine Ib λA1 B1 Dj HT=>?_);refine WK ?_;(first|(refine sd _ ?_;try clear sd G1)|(refine tX _ ?_;try clear tX N1)|refine C _ ?_|refine Y _ ?_|(refine Dj ?_;try clear Dj HT A1 B1)|(refine HT ?_;try clear Dj HT A1 B1)|skip)));(first|(revert sd;revert G1)|(have sd:=C;revert sd;generalize O=G1;revert G1)|refine Ud ?_);(first|(revert tX;revert N1)|(have tX:=Y;revert tX;generalize U=N1;revert N1)|refine Ud ?_);exact h):P:=h fs hq
theorem tn {F P Q:Prop}(fs:F) (hq:Q) (h:F->Q->P:=by
 intro fs h;refine tq fs ?_;intro U Y O C;exact h):P:=h fs hq
theorem tz {P Q:Prop}(hq:Q) (h:Q->P:=by
 intro h;refine tq trivial ?_;intro U Y O C;exact h):P:=h hq
theorem to {F P Q:Prop}(fs:F) (hq:Q) (h:F->Q->P:=by
 intro fs h;(repeat(first|(refine sd _ ?_;try clear sd G1)|(refine tX _ ?_;try clear tX N1)|refine C _ ?_|refine Y _ ?_|refine z8 ?_|refine zY ?_|refine zZ ?_|refine uy ?_|refine vA ?_|refine nP ?_|refine bW ?_|((first|refine tT λN1 tX=>?_|refine YF rfl rfl (by kernel_rfl) (by kernel_rfl) λG1 sd=>?_|refine qw (by kernel_rfl) ?_|refine Ib λA1 B1 Dj HT=>?_);refine WK ?_;(first|(refine sd _ ?_;try clear sd G1)|(refine tX _ ?_;try clear tX N1)|refine C _ ?_|refine Y _ ?_|(refine Dj ?_;try clear Dj HT A1 B1)|(refine HT ?_;try clear Dj HT A1 B1)|skip))));(first|(revert sd;revert G1)|(have sd:=C;revert sd;generalize O=G1;revert G1)|refine Ud ?_);(first|(revert tX;revert N1)|(have tX:=Y;revert tX;generalize U=N1;revert N1)|refine Ud ?_);exact h):P:=h fs hq
theorem dst {F P Q:Prop}(fs:F) (hq:Q) (h:F->Q->P:=by
 intro fs h;(repeat((first|refine aBN rfl rfl λG1 sd=>?_|refine Eh ?_);refine uj ?_;(first|(refine sd _ ?_;try clear sd G1)|(refine tX _ ?_;try clear tX N1)|refine C _ ?_|refine Y _ ?_|skip)));(first|(revert sd;revert G1)|(have sd:=C;revert sd;generalize O=G1;revert G1)|refine Ud ?_);(first|(revert tX;revert N1)|(have tX:=Y;revert tX;generalize U=N1;revert N1)|refine Ud ?_);exact h):P:=h fs hq
structure Hd (P:Prop):Prop where
 out:P
theorem rt {F X P:Prop}{R Q:Exit->St->Prop}(aB:∀e s,e=.normal\/e=.ret->s.df=[]->R e s->Q e s) (fs:F) (hx:X) (h:(∀e s,e=.normal\/e=.ret->s.df=[]->R e s->Q e s)->F->Hd X->P:=by
 intro aB fs h;(first|(show Q .ret _)|(show Q .normal _)|skip);refine aB _ _ (by first|exact .inr rfl|exact .inl rfl) (by first|rfl|assumption|(simp only[u5,qN];assumption)) ?_;refine WK ?_;exact h.out):P:=h aB fs ⟨hx⟩
theorem ur {F G X P:Prop}{R Q:Exit->St->Prop}(aB:∀e s,e=.normal\/e=.ret->s.df=[]->R e s->Q e s) (fs:F) (gs:G) (hx:X) (h:(∀e s,e=.normal\/e=.ret->s.df=[]->R e s->Q e s)->F->G->Hd X->P:=by
 intro aB fs gs h;refine tn fs ?_;clear fs;refine rt aB gs ?_;exact h.out):P:=h aB fs gs ⟨hx⟩
theorem EX {F X P:Prop}{R Q:Exit->St->Prop}(aB:∀e s,e=.normal\/e=.ret->s.df=[]->R e s->Q e s) (fs:F) (hx:X) (h:(∀e s,e=.normal\/e=.ret->s.df=[]->R e s->Q e s)->F->Hd X->P:=by
 intro aB fs h;(first|(show Q .ret _)|(show Q .normal _)|skip);refine aB _ _ (by first|exact .inr rfl|exact .inl rfl) (by first|rfl|assumption|(simp only[u5,qN];assumption)) ?_;refine Rw ?_;exact h.out):P:=h aB fs ⟨hx⟩
theorem oz {F E P:Prop}{R Q:Exit->St->Prop}{H H':aA}(aB:∀e s,e=.normal\/e=.ret->s.df=[]->R e s->Q e s) (fs:F) (aM:H.le H') (e:E) (h:(∀e s,e=.normal\/e=.ret->s.df=[]->R e s->Q e s)->F->H.le H'->E->P:=by
 intro aB fs aM e;(repeat(first|(refine sd _ ?_;try clear sd G1)|(refine tX _ ?_;try clear tX N1)|refine C _ ?_|refine Y _ ?_|refine z8 ?_|refine zY ?_|refine zZ ?_|refine uy ?_|refine vA ?_|refine nP ?_|refine bW ?_|((first|refine tS λN1 tX=>?_|refine Mf rfl rfl (by kernel_rfl) (by kernel_rfl) λG1 sd=>?_|refine lZ (by kernel_rfl) ?_|refine Ib λA1 B1 Dj HT=>?_);refine WK ?_;(first|(refine sd _ ?_;try clear sd G1)|(refine tX _ ?_;try clear tX N1)|refine C _ ?_|refine Y _ ?_|(refine Dj ?_;try clear Dj HT A1 B1)|(refine HT ?_;try clear Dj HT A1 B1)|skip))));(first|(show Q .ret _)|(show Q .normal _)|skip);refine aB _ _ (by first|exact .inr rfl|exact .inl rfl) (by first|rfl|assumption|(simp only[u5,qN];assumption)) ?_;refine WK ?_;exact⟨_,aF _,aM,_,aL aM,by(rw[e];try rfl)⟩):P:=h aB fs aM e
def AtT (t:Nat) (P:Prop):Prop:=P
theorem Ny {c:Code}{Q:Exit->St->Prop}{o i:Nat}{ty:TypeId}{el:List D}(ht:s.fr t=.ep b o sz i k)(hb:s.H b=some (.row ty o sz els))(hi:els[i]?=some el)(h:W cx c Q (s.ku t b k el)):AtT t (W cx c Q s):=dZ t ht hb hi h
theorem cm {P Q:Prop}{H:aA}{b:Nat}(t:Nat) (hb:H b=Option.none) (hq:Q) (h:H b=Option.none->Q->AtT t P:=by
 intro hb h;refine Ny rfl (aK _ _ _) rfl ?_;simp only[St.ku,iN,cO,fS,fC,au,eL,uP,oR,kX,iy hb,I1];exact h):P:=h hb hq
theorem av {a A1:Prop}(a0:a)(c:A1):a/\A1:=⟨a0,c⟩
theorem bQ {a A1 c:Prop}(a0:a)(e:A1)(g:c):a/\A1/\c:=⟨a0,e,g⟩
theorem cA {a A1 c e:Prop}(a0:a)(g:A1)(h:c)(a3:e):a/\A1/\c/\e:=⟨a0,g,h,a3⟩
theorem cw {a A1 c e g:Prop}(a0:a)(h:A1)(i:c)(a3:e)(a4:g):a/\A1/\c/\e/\g:=⟨a0,h,i,a3,a4⟩
theorem eP {a A1 c e g h:Prop}(a0:a)(i:A1)(l:c)(a3:e)(a4:g)(a5:h):a/\A1/\c/\e/\g/\h:=⟨a0,i,l,a3,a4,a5⟩
theorem ej {a A1 c e g h i:Prop}(a0:a)(l:A1)(m:c)(a3:e)(a4:g)(a5:h)(p:i):a/\A1/\c/\e/\g/\h/\i:=⟨a0,l,m,a3,a4,a5,p⟩
theorem bG {a A1 c e g h i l:Prop}(a0:a)(m:A1)(p:c)(a3:e)(a4:g)(a5:h)(r:i)(u:l):a/\A1/\c/\e/\g/\h/\i/\l:=⟨a0,m,p,a3,a4,a5,r,u⟩
theorem nF (P:Prop)(h:¬P:=by omega):P=False:=aI h
theorem nT (P:Prop)(h:P:=by omega):P=True:=aG h
theorem oX {c:Sort _}(a:c):∃x,x=a:=⟨_,rfl⟩
theorem aN.q {ds:List D}{H1:aA}{d0:D}{K:D->aA->Prop}(h:aN P f ds H λd H'=>d=d0/\H1=H')(hk:K d0 H1):aN P f ds H K:=h.mono λd H' a=>by
 obtain⟨rfl,rfl⟩:=a;exact hk
theorem aN.qs {P:Program}{f:FuncId}{ds:List D}{H:aA}{H1:aA}{d0:D}{K:D->aA->Prop}{F Q:Prop}(h:aN P f ds H λd H'=>d=d0/\H1=H') (fs:F) (hq:Q) (hk:F->Q->K d0 H1:=by
 intro fs h;refine tq fs ?_;exact h):aN P f ds H K:=h.q (hk fs hq)
theorem aN.qt {P:Program}{f:FuncId}{ds:List D}{H:aA}{H1:aA}{d0:D}{K:D->aA->Prop}{Q:Prop}(h:aN P f ds H λd H'=>d=d0/\H1=H') (hq:Q) (hk:Q->K d0 H1:=by
 intro h;refine tq trivial ?_;exact h):aN P f ds H K:=h.q (hk hq)
theorem nx {P Q:Prop}(hq:Q) (h:Q->P:=by
 intro h;(first|refine C _ ?_|refine Y _ ?_|skip);exact h):P:=h hq
theorem eV {F P Q:Prop}(fs:F) (hq:Q) (h:F->Q->P:=by
 intro fs h;refine WK ?_;exact h):P:=h fs hq
theorem eG {F P Q:Prop}(fs:F) (hq:Q) (h:F->Q->P:=by
 intro fs h;refine evG ?_;exact h):P:=h fs hq
theorem sg {F P Q:Prop}(fs:F) (hq:Q) (h:F->Q->P:=by
 intro fs h;(repeat(first|refine bW ?_|refine nP ?_|refine z8 ?_|refine zY ?_|refine zZ ?_|refine uy ?_|refine vA ?_|((first|refine V4 (by kernel_rfl) ?_|refine YG ?_|refine VZ (by kernel_rfl) (by kernel_rfl) ?_);refine Rw ?_)));exact h):P:=h fs hq
theorem u0 {X P:Prop}{R Q:Exit->St->Prop}(aB:∀e s,e=.normal\/e=.ret->s.df=[]->R e s->Q e s) (hx:X) (h:(∀e s,e=.normal\/e=.ret->s.df=[]->R e s->Q e s)->Hd X->P:=by
 intro aB h;refine ur aB trivial trivial ?_;exact h.out):P:=h aB ⟨hx⟩
theorem zf {d:D}{K:D->Prop}(a:H0.le H')(e:K d):∃H1,H1.le H'/\(H0.le H1/\∃d0,uq H0 H1 d d0/\K d0):=⟨_,aF _,a,_,aL a,e⟩
theorem dO {fn:Func}{c:Code}{ds:List D}{H:aA}{K:D->aA->Prop}{N:Nat}{rs:List ResultVar}(hf:P.funcs[f]?=some fn)(hN:fn.ntmps=N)(xv:fn.results=rs.toArray)
  (h:∀w0 (g0:wW w0 H) (Q:Exit->St->Prop),(∀e s,e=.normal\/e=.ret->s.df=[]->pZ P s rs (λd=>∃H',H'.le s.H/\K d H')->Q e s)->W ⟨P,none,N,H,w0,g0⟩ c Q (St.init ds H))
  (mh:(fn.name== "runtime.NumGoroutine")=false:=by rfl) (hb:fn.body=some c:=by rfl) (hl:ds.length<=N:=by simp):aN P f ds H K:=Ro N rs hf mh hb hN xv hl h
end Go.Proofs.YtffgfafbffdgaaaGreatDoor
namespace Go.Proofs.YtffgfafbffdgaaaGreatDoor
open Go.ChangeMaps (setBlock)
open Go.RowKit
variable {H H':aA}{b r:Nat}{cx:Cx}{o:Oper}{x:Operand}{l1 l2:List MapEntry}
def B0 (H:aA) (b r:Nat) (g:List (Value×Value)):Prop:=
 ∃f c a seen h,H b=some (.obj (.map f c))/\H r=some (.obj (.mapIter (some b) a seen h))/\(∀x∈f.toList,x.born<a)/\a<=h/\a<=c/\
  (f.toList.map (·.born)).Nodup/\g=(leftOf f seen).toList.map λe=>(e.key,e.val)
def Ex (H:aA) (b r:Nat) (p:Value×Value):Prop:=
 ∃(f:Array MapEntry) (a c:Nat) (seen:Array Nat) (e:MapEntry),H b=some (.obj (.map f a))/\H r=some (.obj (.mapIter (some b) c (seen.push e.born) a))/\e∈f.toList/\(f.toList.map (·.born)).Nodup/\p=(e.key,e.val)
theorem B0.cM {a:List (Value×Value)}(h:B0 H b r a)(hb:H' b=H b)(hr:H' r=H r):B0 H' b r a:=by
 obtain⟨g,c,e,seen,f,i,j,k⟩:=h;exact⟨g,c,e,seen,f,hb.trans i,hr.trans j,k⟩
theorem Ex.cM {p:Value×Value}(h:Ex H b r p)(hb:H' b=H b)(hr:H' r=H r):Ex H' b r p:=by
 obtain⟨f,a,c,seen,e,g,i,j⟩:=h;exact⟨f,a,c,seen,e,hb.trans g,hr.trans i,j⟩
theorem Eg {w:World}{S:Nat->Prop}:∀(vs:List (Value×Value)) (us:List Value),aT w S ((vs.map λp=>(p.1,D.val p.2)).map (·.2)) us->us=vs.map (·.2)
 |[],us,h=>by simpa [aT] using h
 |p::vs,us,h=>by
  simp only[cC,aT,D.is] at h;obtain⟨u,a,rfl,rfl,h⟩:=h;rw[Eg vs a h];rfl
theorem Af:∀(l:List MapEntry) (vs:List (Value×Value)),l.map (·.key)=vs.map (·.1)->l.map (·.val)=vs.map (·.2)->l.map (λe=>(e.key,e.val))=vs
 |[],[],_,_=>rfl
 |[],_::_,h,_=>by cases h
 |_::_,[],h,_=>by cases h
 |e::l,p::vs,h1,h2=>by
  simp only[cC,rI] at h1 h2 ⊢;exact⟨by rw[h1.1,h2.1],Af l vs h1.2 h2.2⟩
theorem zX {K:St->Prop}{s:St}{t k e:TypeId}{b:Nat}(vs:List (Value×Value))(e0:o.op=.range t x)(hd:qP cx.n o.dst)(ht:cx.P.underlying t=some (.map k e))
  (hx:s.ev x=.val (.map (some b))) (hb:s.H b=some (.map (vs.map λp=>(p.1,.val p.2))))
  (h:∀r H',s.H r=none->r≠b->B0 H' b r vs->(∀c,c≠b->c≠r->H' c=s.H c)->K ((s.cJ H').put o.dst (.val (.pointer (some ⟨r,0,none⟩))))):WO cx o K s:=
 mJ (by simp [e0]) hd λa w m=>by
  have z:=m.nz x;rw[hx] at z;have E:=cQ z;obtain⟨j,g,A,I,J,V,L,M⟩:=m.H _ _ hb;have R:b<w.heap.size:=(jP.1 A).1;have v:w.heap.size≠b:=by omega
  have l:Es (s.H.aU b (.obj (.map j g))) s.H:=λc i=>by rw[aJ (λe=>by rw[e,hb] at i;cases i)];exact i
  have u:eF w (s.H.aU b (.obj (.map j g))):=λc y i=>by
   by_cases G:c=b
   ·subst G
    rw[aK] at i;injection i with i
    subst i;exact A
   ·rw[aJ G] at i
    exact(nE l w).jb rfl (m.H c y i)
  have B:eF (w.alloc (.mapIter (some b) g #[] g)) ((s.H.aU b (.obj (.map j g))).aU w.heap.size (.obj (.mapIter (some b) g #[] g))):=eF.alloc u (heap_alloc_new w _);refine⟨.pointer (some ⟨w.heap.size,0,none⟩),_,_,_,?_,lN _,B,(nE l w).trans (gN _ _ u),h w.heap.size _ (ff m.H) v ⟨j,g,g,#[],g,?_,aK ..,?_,bh _,bh _,M,?_⟩ ?_⟩
  ·simp only[execOp,e0,E]
   have:=run_range_map (P:=cx.P) w t k e b j g ht A;simp only[Sem.run_bind,this,Result.andThen,Sem.run_pure]
  ·rw[aJ (Ne.symm v),aK]
  ·intro y T
   exact L _ (wM (f:=(·.born)) T)
  ·have N:leftOf j #[]=j:=by
    unfold leftOf;rw[Array.filter_eq_self];intro y _;simp
   rw[N]
   refine(Af _ _ ?_ ?_).symm
   ·rw[I,gL];rfl
   ·exact Eg vs _ J
  ·intro c i S
   rw[aJ S,aJ i]
theorem uW {l:List MapEntry}{e:MapEntry}(hn:(l.map (·.born)).Nodup)(hl:l=l1++e::l2):l.filter (λx=> !(x.born==e.born))=l1++l2:=by
 subst hl;rw[bI,cC,mW] at hn;obtain⟨i,c,h⟩:=hn;rw[pO] at c;rw[ly,List.filter_cons];simp only[BEq.rfl,kF,ia,dY];congr 1
 ·refine zI.2 λx a=>?_
  have:=h x.born (wM (f:=(·.born)) a) e.born (by simp);simpa using this
 ·refine zI.2 λx a=>?_
  have:x.born≠e.born:=λg=>c.1 (by rw[<-g];exact wM (f:=(·.born)) a);simpa using this
theorem Le {a:Array MapEntry}{seen:Array Nat}{e:MapEntry}(hn:(a.toList.map (·.born)).Nodup)(hl:(leftOf a seen).toList=l1++e::l2):(leftOf a (seen.push e.born)).toList=l1++l2:=by
 have c:(leftOf a (seen.push e.born)).toList=(leftOf a seen).toList.filter (λx=> !(x.born==e.born)):=by
  unfold leftOf;rw[Array.toList_filter,Array.toList_filter,List.filter_filter];refine List.filter_congr λx _=>?_;rw[contains_push];cases seen.contains x.born <;> cases (x.born==e.born) <;> rfl
 rw[c];refine uW ?_ hl;unfold leftOf;rw[Array.toList_filter];exact hn.sublist (List.Sublist.map _ List.filter_sublist)
theorem uw {K:St->Prop}{s:St}{b r:Nat}{i:List (Value×Value)}(e0:o.op=.next x false)(hd:qP cx.n o.dst)
  (hx:s.ev x=.val (.pointer (some ⟨r,0,none⟩))) (hR:B0 s.H b r i) (h0:i=[]->K (s.put o.dst (.eO [.val (.bool false)])))
  (h1:∀l1 p l2 H',i=l1++p::l2->B0 H' b r (l1++l2)->Ex H' b r p->(∀c,c≠r->H' c=s.H c)->K ((s.cJ H').put o.dst (.eO [.val (.bool true),.val p.1,.val p.2]))):WO cx o K s:=
 mJ (by simp [e0]) hd λa w m=>by
  have G:=m.nz x;rw[hx] at G;have I:=cQ G;obtain⟨v,f,g,seen,L,hb,hr,hold,T,E,u,rfl⟩:=hR;have Z:w.heap[b]?=some (.map v f):=m.H _ _ hb;have wr:w.heap[r]?=some (.mapIter (some b) g seen L):=m.H _ _ hr;have N:b≠r:=λe=>by rw[e,wr] at Z;cases Z
  rcases run_next_at (P:=cx.P) w o.type r b g L seen v f wr Z hold T with⟨z,k⟩|⟨e,he,y,l,k⟩
  ·refine⟨.tuple #[.bool false],w,_,s.H,?_,?_,m.H,dr _ _,h0 ?_⟩
   ·simp only[execOp,e0,I,Sem.run_bind,k,Result.andThen,Sem.run_pure]
   ·simp only[D.is,aT]
    exact⟨_,rfl,_,_,rfl,rfl,rfl⟩
   ·have:leftOf v seen= #[]:=Array.eq_empty_of_size_eq_zero z
    rw[this];rfl
  ·obtain⟨l1,l2,hl⟩:=zL he
   have V:y.heap=w.heap:=by rcases l with rfl|rfl <;> rfl
   have R:Ev s.H w s.H y:=by
    rcases l with rfl|rfl
    ·exact dr _ _
    ·exact nV _ _
   have J:y.heap[r]?=some (.mapIter (some b) g seen L):=by rw[V];exact wr
   have j:=MapKept.heap_set (o':=.mapIter (some b) g (seen.push e.born) f) J;have M:eF y s.H:=by
    rcases l with rfl|rfl
    ·exact m.H
    ·exact m.H.drew
   have fV:Ev s.H y (s.H.aU r (.obj (.mapIter (some b) g (seen.push e.born) f))) (setBlock y r (.mapIter (some b) g (seen.push e.born) f)):=
    jI (by rw[hr];simp) rfl rfl rfl (by simp [setBlock]) (λc B=>j.2 c B) λcs t fr h=>by
     rw[J] at h;cases h
   have dC:=hQ M fV (λc B=>j.2 c B) (x:=.obj (.mapIter (some b) g (seen.push e.born) f)) j.1;have A:(s.H.aU r (.obj (.mapIter (some b) g (seen.push e.born) f))) b=some (.obj (.map v f)):=by rw[aJ N];exact hb
   obtain⟨S,a0⟩:=mem_left he;refine⟨.tuple #[.bool true,e.key,e.val],_,_,_,?_,?_,dC,R.trans fV,h1 (l1.map λe=>(e.key,e.val)) (e.key,e.val) (l2.map λe=>(e.key,e.val)) _ (by rw[hl,bI,cC]) ⟨v,f,g,seen.push e.born,f,A,aK ..,hold,E,E,u,?_⟩ ⟨v,f,g,seen,e,A,aK ..,S,u,rfl⟩ (λc B=>aJ B)⟩
   ·simp only[execOp,e0,I,Sem.run_bind,k,Result.andThen,Sem.run_pure]
   ·simp only[D.is,aT]
    exact⟨_,rfl,_,_,rfl,rfl,_,_,rfl,rfl,_,_,rfl,rfl,rfl⟩
   ·rw[Le u hl,bI]
theorem rj {K:St->Prop}{s:St}{b r:Nat}{p:Value×Value}(e0:o.op=.entry x)(hd:qP cx.n o.dst)
  (hx:s.ev x=.val (.pointer (some ⟨r,0,none⟩))) (t:Ex s.H b r p) (h:K (s.put o.dst (.eO [.val p.1,.val p.2]))):WO cx o K s:=
 fx (by simp [e0]) hd λa w m=>by
  have c:=m.nz x;rw[hx] at c;have k:=cQ c;obtain⟨l,f,g,seen,e,u,v,i,j,rfl⟩:=t;refine⟨.tuple #[e.key,e.val],_,?_,?_,h⟩
  ·simp only[execOp,e0,k,Sem.run_bind,run_entry_at (P:=cx.P) w r b g seen l f e (m.H _ _ v) (m.H _ _ u) i j,Result.andThen,Sem.run_pure]
  ·simp only[D.is,aT]
   exact⟨_,rfl,_,_,rfl,rfl,_,_,rfl,rfl,rfl⟩
end Go.Proofs.YtffgfafbffdgaaaGreatDoor
