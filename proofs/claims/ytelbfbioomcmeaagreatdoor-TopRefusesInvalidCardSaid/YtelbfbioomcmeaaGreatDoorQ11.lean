/- Lemmas and contracts of functions, several texts in one. -/
import Derived.Deep.Slices
import Derived.OpenShut
import Derived.Test.YtelbfbioomcmeaaGreatDoorQ10
set_option maxRecDepth 100000
set_option maxHeartbeats 4000000
set_option linter.all false
namespace Go.Proofs.YtelbfbioomcmeaaGreatDoor
open Go.RowKit
theorem aFV {P:Program} {f:FuncId} {ds:List D} {vs:List Value} {w:World} (h:aT P f ds .none fun d _=>d=.val (.bool true)) (hv:aW w aA.none.others ds vs) (hG:E3 w aA.none:=by first|exact a0Y _ _|assumption):
  Calls P f vs.toArray w fun e w'=>e=.returned (.bool true)/\Below w.heap.size w w':=
 (h.2 w vs hv (fun b x hb=>by cases hb) hG).mono fun e w' ⟨v,d,H',he,hd,_,iP,hk⟩=>by
  subst hk
  rw[dF hd] at he
  exact⟨he,iP.os,iP.tape,iP.output,iP.size,fun k hk=>(iP.jY k hk rfl).1⟩
end Go.Proofs.YtelbfbioomcmeaaGreatDoor
namespace Go.Proofs.YtelbfbioomcmeaaGreatDoor
open Go.RowKit Go.WideShapes
inductive DT where
 |int (k:IntKind)
 |bool
 |string
 |slice (sz sY:Nat) (e:DT)
 |struct (fs:List DT)
 |array (n:Nat) (e:DT)
inductive X where
 |int (k:IntKind) (n:Int)
 |bool (b:Bool)
 |str (s:ByteArray)
 |list (sz:Nat) (xs:List X)
 |agg (xs:List X)
instance:Inhabited X:=⟨.bool false⟩
mutual
def X.cs:X->List D
 | .int k n=>[.val (.int k n)]
 | .bool b=>[.val (.bool b)]
 | .str s=>[.val (.string s)]
 | .list sz xs=>[.seq sz (X.YH xs)]
 | .agg xs=>X.MT xs
def X.YH:List X->List (List D)
 |[]=>[]
 |x::xs=>X.cs x::X.YH xs
def X.MT:List X->List D
 |[]=>[]
 |x::xs=>X.cs x++X.MT xs
end
theorem X.MU:∀(xs:List X),X.YH xs=xs.map X.cs
 |[]=>by simp [X.YH]
 |x::xs=>by simp [X.YH,X.MU xs]
def X.d:X->D
 | .int k n=>.val (.int k n)
 | .bool b=>.val (.bool b)
 | .str s=>.val (.string s)
 | .list sz xs=>.seq sz (X.YH xs)
 | .agg xs=>.agg (X.MT xs)
mutual
def DT.ok:DT->X->Prop
 | .int k,x=>∃n,x=.int k n/\(Lit.int k n).wf=true
 | .bool,x=>∃b,x=.bool b
 | .string,x=>∃s,x=.str s/\s.size<=140737488351232
 | .slice sz sY e,x=>∃xs,x=.list sz xs/\xs.length * sY<=140737488351232/\∀y∈xs,DT.ok e y
 | .struct fs,x=>∃xs,x=.agg xs/\DT.oks fs xs
 | .array n e,x=>∃xs,x=.agg xs/\xs.length=n/\∀y∈xs,DT.ok e y
def DT.oks:List DT->List X->Prop
 |[],xs=>xs=[]
 |f::fs,xs=>∃y ys,xs=y::ys/\DT.ok f y/\DT.oks fs ys
end
def HY (P:Program):Nat->List Field->Nat->Bool
 |o,[],n=>o==n
 |o,f::fs,n=>f.offset==o&&HY P (o+P.cellsOf f.type) fs n
mutual
def xC (P:Program) (t:TypeId):DT->Bool
 | .int k=>(match P.underlying t with
  |some (.int k')=>decide (k'=k)
  |_=>false)
 | .bool=>(match P.underlying t with
  |some .bool=>true
  |_=>false)
 | .string=>(match P.underlying t with
  |some .string=>true
  |_=>false)
 | .slice sz sY e=>(match P.underlying t with
  |some (.slice te)=>P.cellsOf te==sz&&decide (0<sz)&&P.bytesOf te==sY&&xC P te e
  |_=>false)
 | .struct ds=>(match P.underlying t with
  |some (.struct fs)=>HY P 0 fs.toList (P.cellsOf t)&&KX P (fs.toList.map (·.type)) ds
  |_=>false)
 | .array n e=>(match P.underlying t with
  |some (.array m te)=>m==n&&P.cellsOf t==n * P.cellsOf te&&xC P te e
  |_=>false)
def KX (P:Program):List TypeId->List DT->Bool
 |[],[]=>true
 |t::ts,d::ds=>xC P t d&&KX P ts ds
 |_,_=>false
end
section
variable {H:Type} {enc:TypeId×Value->H} {P:Program} {w:World} {uK:Nat} {SC:Nat->Bool} {aB8:Bool}
theorem trod_int {t:TypeId} {k:IntKind} {hQ:Nat} {cs:List Value} {x:DataW H×List MemPlace} (ht:P.underlying t=some (.int k)) (h:DataW.trod enc P w uK SC aB8 hQ t cs=some x):∃n,cs=[.int k n]/\(Lit.int k n).wf=true:=by
 cases hQ with
 |zero=>simp [DataW.trod] at h
 |succ m=>
  unfold DataW.trod at h
  rw[ht] at h
  split at h <;> simp_all
theorem aAI {t:TypeId} {hQ:Nat} {cs:List Value} {x:DataW H×List MemPlace} (ht:P.underlying t=some .bool) (h:DataW.trod enc P w uK SC aB8 hQ t cs=some x):∃b,cs=[.bool b]:=by
 cases hQ with
 |zero=>simp [DataW.trod] at h
 |succ m=>
  unfold DataW.trod at h
  rw[ht] at h
  split at h <;> simp_all
theorem aCn {t:TypeId} {hQ:Nat} {cs:List Value} {x:DataW H×List MemPlace} (ht:P.underlying t=some .string) (h:DataW.trod enc P w uK SC aB8 hQ t cs=some x):∃s,cs=[.string s]/\x.1=.lit (.string s.data.toList):=by
 cases hQ with
 |zero=>simp [DataW.trod] at h
 |succ m=>
  unfold DataW.trod at h
  rw[ht] at h
  split at h <;> simp_all
  rw[<-h.2]
theorem sT {e:TypeId}:∀{l:List (DataW H)},(DataW.weightsAll P e l).all (·<=reachBytes)=true->∀d∈l,(d.weights P e).all (·<=reachBytes)=true
 |[],_,d,hd=>by cases hd
 |d0::l,h,d,hd=>by
  simp only[DataW.weightsAll,HJ,eF] at h
  rcases eG.1 hd with rfl|hd
  ·exact h.1
  ·exact sT h.2 d hd
end
theorem CB {w:World} {S:Nat->Prop} {cs ds:List D} {vs:List Value} {n:Nat} (h1:aU w S cs (vs.take n)) (h2:aU w S ds (vs.drop n)):aU w S (cs++ds) vs:=by
 rw[<-kV n vs]
 exact dS h1 h2
section
variable {H:Type} {enc:TypeId×Value->H} {P:Program} {w:World} {uK:Nat} {SC:Nat->Bool} {aB8:Bool} {S:Nat->Prop} (hS:∀b,S b)
theorem PZ {α:Type} {n:Nat} {p:Nat->α->Prop} (h:∀i,i<n->∃x,p i x):∃l:List α,l.length=n/\∀i x,l[i]?=some x->p i x:=by
 induction n with
 |zero=>exact⟨[],rfl,fun i x hx=>by cases hx⟩
 |succ n ih=>
  obtain⟨l,hl,hp⟩:=ih fun i hi=>h i (by omega)
  obtain⟨x,hx⟩:=h n (by omega)
  refine⟨l++[x],by simp [hl],fun i y hy=>?_⟩
  by_cases hi:i<l.length
  ·rw[nS hi] at hy
   exact hp i y hy
  ·rw[qX (by omega)] at hy
   have DU:i - l.length=0:=by
    have:=(kD.1 hy).1
    simp at this
    omega
   rw[DU] at hy
   simp only[l7,pJ] at hy
   subst hy
   rw[show i=n by omega]
   exact hx
def Good (P:Program) (w:World) (S:Nat->Prop) (dt:DT) (cs:List Value):Prop:=∃x,dt.ok x/\aU w S x.cs cs
theorem HP {e:DT} {c:Nat}:∀{n:Nat} {cs:List Value},cs.length=n * c->(∀i,i<n->Good P w S e ((cs.drop (i * c)).take c))->∃xs:List X,xs.length=n/\(∀y∈xs,e.ok y)/\aU w S (X.MT xs) cs
 |0,cs,hl,h=>⟨[],rfl,fun y hy=>(by cases hy),by
   have:cs=[]:=gP (by omega)
   subst this
   simp only[X.MT,aU]⟩
 |n+1,cs,hl,h=>by
  obtain⟨x,h1,h2⟩:=h 0 (by omega)
  rw[zZ,iY] at h2
  have s7:(cs.drop c).length=n * c:=by rw[kG,hl,wH];omega
  obtain⟨xs,h3,h4,h5⟩:=HP (cs:=cs.drop c) s7 fun i hi=>by
   have:=h (i+1) (by omega)
   rw[zX,show c+i * c=(i+1) * c by rw[wH];omega]
   exact this
  refine⟨x::xs,by simp [h3],?_,?_⟩
  ·intro y hy
   rcases eG.1 hy with rfl|hy
   ·exact h1
   ·exact h4 y hy
  ·simp only[X.MT]
   exact CB h2 h5
theorem FB:∀{fs:List Field} {ds:List DT} {o n:Nat} {cs:List Value},HY P o fs n=true->cs.length=n->fs.length=ds.length->(∀(i:Nat) (f:Field) d,fs[i]?=some f->ds[i]?=some d->Good P w S d ((cs.drop f.offset).take (P.cellsOf f.type)))->∃xs:List X,DT.oks ds xs/\aU w S (X.MT xs) (cs.drop o)
 |[],ds,o,n,cs,hc,hl,eB,h=>by
  cases ds with
  |cons _ _=>cases eB
  |nil=>
   simp only[HY,wL] at hc
   refine⟨[],by simp only[DT.oks],?_⟩
   rw[dX (by omega)]
   simp only[X.MT,aU]
 |f::fs,ds,o,n,cs,hc,hl,eB,h=>by
  cases ds with
  |nil=>cases eB
  |cons d ds=>
   simp only[HY,eF,wL] at hc
   obtain⟨ho,hc⟩:=hc
   obtain⟨x,h1,h2⟩:=h 0 f d rfl rfl
   obtain⟨xs,h3,h4⟩:=FB (cs:=cs) hc hl (by simpa using eB) fun i f' d' hf hd=>h (i+1) f' d' hf hd
   refine⟨x::xs,by simp only[DT.oks];exact⟨x,xs,rfl,h1,h3⟩,?_⟩
   simp only[X.MT]
   rw[ho] at h2
   rw[<-zX] at h4
   exact CB h2 h4
theorem KY:∀{ts:List TypeId} {ds:List DT},KX P ts ds=true->ts.length=ds.length/\∀(i:Nat) t d,ts[i]?=some t->ds[i]?=some d->xC P t d=true/\d∈ds
 |[],[],_=>⟨rfl,fun i t d h=>by cases h⟩
 |t::ts,d::ds,h=>by
  simp only[KX,eF] at h
  obtain⟨h1,h2⟩:=KY h.2
  refine⟨by simp [h1],fun i t' d' ht hd=>?_⟩
  cases i with
  |zero=>
   simp only[l7,pJ] at ht hd
   subst ht hd
   exact⟨h.1,wN⟩
  |succ i=>
   obtain⟨h3,h4⟩:=h2 i t' d' (by simpa using ht) (by simpa using hd)
   exact⟨h3,jR _ h4⟩
 |[],_::_,h=>by simp [KX] at h
 |_::_,[],h=>by simp [KX] at h
theorem qW:∀{ts:List TypeId} {ds:List (DataW H)},(DataW.weightsEach P ts ds).all (·<=reachBytes)=true->∀(i:Nat) t d,ts[i]?=some t->ds[i]?=some d->(d.weights P t).all (·<=reachBytes)=true
 |[],_,_,i,t,d,h,_=>by cases h
 |_::_,[],_,i,t,d,_,h=>by cases h
 |t::ts,d::ds,h,i,t',d',ht,hd=>by
  simp only[DataW.weightsEach,HJ,eF] at h
  cases i with
  |zero=>
   simp only[l7,pJ] at ht hd
   subst ht hd
   exact h.1
  |succ i=>exact qW h.2 i t' d' (by simpa using ht) (by simpa using hd)
include hS in
theorem aAJ:∀(hQ:Nat) (dt:DT) (t:TypeId) (cs:List Value) (x:DataW H×List MemPlace),xC P t dt=true->DataW.trod enc P w uK SC aB8 hQ t cs=some x->(x.1.weights P t).all (·<=reachBytes)=true->Good P w S dt cs:=by
 intro hQ
 induction hQ with
 |zero=>intro dt t cs x _ h;simp [DataW.trod] at h
 |succ hQ ih=>
  intro dt t cs x rB h hw
  cases dt with
  |int k=>
   unfold xC at rB
   split at rB
   ·rename_i k' ht
    have:=zU rB
    subst this
    obtain⟨n,rfl,hn⟩:=trod_int ht h
    refine⟨.int k' n,by simp only[DT.ok];exact⟨n,rfl,hn⟩,?_⟩
    simp only[X.cs,aU,D.is]
    exact⟨_,_,rfl,rfl,rfl,rfl⟩
   ·cases rB
  |bool=>
   unfold xC at rB
   split at rB
   ·rename_i ht
    obtain⟨b,rfl⟩:=aAI ht h
    refine⟨.bool b,by simp only[DT.ok];exact⟨b,rfl⟩,?_⟩
    simp only[X.cs,aU,D.is]
    exact⟨_,_,rfl,rfl,rfl,rfl⟩
   ·cases rB
  |string=>
   unfold xC at rB
   split at rB
   ·rename_i ht
    obtain⟨s,rfl,hx⟩:=aCn ht h
    rw[hx] at hw
    simp only[DataW.weights,l8,oS,nW,jU] at hw
    have hw2:s.size<=reachBytes:=by show s.data.size<=reachBytes;rw[<-jS];exact hw
    refine⟨.str s,by simp only[DT.ok];exact⟨s,rfl,hw2⟩,?_⟩
    simp only[X.cs,aU,D.is]
    exact⟨_,_,rfl,rfl,rfl,rfl⟩
   ·cases rB
  |slice sz sY e=>
   unfold xC at rB
   split at rB
   ·rename_i te ht
    simp only[eF,wL,jU] at rB
    obtain⟨⟨⟨lE,ZF⟩,hby⟩,KC⟩:=rB
    rcases DataW.trod_slice ht h with⟨rfl,rfl⟩|⟨a,len,cap,a0M,dD,n,hn,rfl,rfl,hb,hl,hm,eB,FE,T6,hns⟩
    ·refine⟨.list sz [],by simp only[DT.ok];exact⟨[],rfl,by simp,fun y hy=>by cases hy⟩,?_⟩
     simp only[X.cs,X.YH,aU,D.is]
     exact⟨_,_,rfl,rfl,⟨none,0,rfl,fA _,.inl trivial⟩,rfl⟩
    ·have hn':n=hQ:=by omega
     subst hn'
     simp only[DataW.weights,ht,l8,HJ,eF,jU,bK] at hw
     obtain⟨hw1,hw2,_⟩:=hw
     rw[hby,eB] at hw1
     have QS:∀i,i<len->∃c,w.cells? uK (a.add (i * sz)) sz=some c/\Good P w S e c:=fun i hi=>by
      have h1:=FE i hi
      rw[lE,cP (by omega)] at h1
      obtain⟨c,h2,h3⟩:=Option.bind_eq_some_iff.1 h1
      exact⟨c,h2,ih e te c _ KC h3 (sT hw2 _ (mT.2 ⟨_,bZ (by omega),rfl⟩))⟩
     obtain⟨xs,hxl,hxs⟩:=PZ (n:=len) (p:=fun i x=>DT.ok e x/\∃c,w.cells? uK (a.add (i * sz)) sz=some c/\aU w S x.cs c) fun i hi=>by
      obtain⟨c,h1,x,h2,h3⟩:=QS i hi
      exact⟨x,h2,c,h1,h3⟩
     refine⟨.list sz xs,?_,?_⟩
     ·simp only[DT.ok]
      refine⟨xs,rfl,?_,fun y hy=>?_⟩
      ·have:xs.length * sY<=(len+dD.length) * sY:=jP _ (by omega)
       exact tU this hw1
      ·obtain⟨i,hi⟩:=uG hy
       exact(hxs i y hi).1
     ·have xY:X.YH xs=[]\/∃b o,some a=some ⟨b,o,none⟩/\S b/\b<w.heap.size/\dC w S b sz o (X.YH xs):=by
       rcases zT len with h0|h0
       ·left
        have:xs=[]:=gP (by omega)
        rw[this];rfl
       ·right
        obtain⟨c0,CP,_⟩:=QS 0 h0
        obtain⟨_,l9,pZ⟩:=World.cells?_some CP
        have xW:=pZ 0 ZF
        rw[cP (by omega),zZ] at xW
        obtain⟨b,o,sp⟩:=a
        have aXl:sp=none:=by simpa [Addr.add] using World.cell?_spot xW
        subst aXl
        refine⟨b,o,rfl,hS b,by simpa [Addr.add] using aDU xW,?_⟩
        refine eY fun j el hj=>?_
        rw[X.MU,cR] at hj
        obtain⟨x,hx,rfl⟩:=O1.1 hj
        obtain⟨_,c,hc,eW⟩:=hxs j x hx
        obtain⟨_,hd1,hd2⟩:=World.cells?_some hc
        refine⟨by rw[<-dU eW,hd1],dV eW fun q v hq=>?_⟩
        have aXi:q<sz:=by rw[<-hd1];exact(kD.1 hq).1
        have:=hd2 q aXi
        rw[hq] at this
        rw[<-this,Addr.add_lit,Addr.add_lit]
      simp only[X.cs,aU,D.is]
      have TZ:(X.YH xs).length=len:=by rw[X.MU,bK,hxl]
      refine⟨_,_,rfl,rfl,⟨some a,cap,by rw[TZ],by rw[TZ];exact hl,xY⟩,rfl⟩
   ·cases rB
  |struct ds=>
   unfold xC at rB
   split at rB
   ·rename_i fs ht
    simp only[eF] at rB
    obtain⟨hc,ha⟩:=rB
    obtain⟨xs,n,hn,rfl,eB,hxl,hx⟩:=DataW.trod_struct ht h
    have hn':n=hQ:=by omega
    subst hn'
    obtain⟨ha1,ha2⟩:=KY ha
    simp only[DataW.weights,ht] at hw
    obtain⟨ys,h1,h2⟩:=FB (P:=P) (w:=w) (S:=S) (cs:=cs) hc eB (by simpa using ha1) fun i f d hf hd=>by
     have hf':fs[i]?=some f:=by simpa using hf
     have hi:i<xs.length:=by
      have:=(nR.1 hf').1
      omega
     have h3:=hx i f hf'
     rw[cP hi] at h3
     have ht':(fs.toList.map (·.type))[i]?=some f.type:=by rw[cR,hf];rfl
     exact ih d f.type _ _ (ha2 i f.type d ht' hd).1 h3 (qW hw i f.type _ ht' (by rw[cR,cP hi] <;> rfl))
    exact⟨.agg ys,by simp only[DT.ok];exact⟨ys,rfl,h1⟩,by simpa only[X.cs,iY] using h2⟩
   ·cases rB
  |array m e=>
   unfold xC at rB
   split at rB
   ·rename_i m' te ht
    simp only[eF,wL] at rB
    obtain⟨⟨rfl,hc⟩,KC⟩:=rB
    obtain⟨xs,n,hn,rfl,eB,hxl,hx⟩:=DataW.trod_array ht h
    have hn':n=hQ:=by omega
    subst hn'
    simp only[DataW.weights,ht] at hw
    obtain⟨ys,h1,h2,h3⟩:=HP (P:=P) (w:=w) (S:=S) (e:=e) (c:=P.cellsOf te) (n:=m') (cs:=cs) (by rw[eB,hc]) fun i hi=>by
     have h4:=hx i hi
     rw[cP (by omega)] at h4
     exact ih e te _ _ KC h4 (sT hw _ (mT.2 ⟨_,bZ (by omega),rfl⟩))
    exact⟨.agg ys,by simp only[DT.ok];exact⟨ys,rfl,h1,h2⟩,by simpa only[X.cs] using h3⟩
   ·cases rB
end
theorem yO {w:World} {S:Nat->Prop} {d:D} {v:Value} {cs:List D} (hc:cs=[d]) (h:aU w S cs v.cells.toList) (hv:v.cells= #[v]):D.is w S d v:=by
 subst hc
 rw[hv] at h
 simp only[aU] at h
 obtain⟨u,us,h1,_,h2,h3⟩:=h
 subst h3
 simp only[List.cons.injEq] at h1
 rw[h1.1]
 exact h2
theorem aHb {H:Type} {enc:TypeId×Value->H} {P:Program} {w:World} {r:Reach} {uK:Nat} {t:TypeId} {v:Value} {d:DataW H} {p:List MemPlace} (dt:DT) (rB:xC P t dt=true)
  (eX:Value.okWide P w r uK t v) (h:DataW.Trod enc P w 0 (fun _=>true) true t v d p) (hw:(d.weights P t).all (·<=reachBytes)=true):∃x:X,dt.ok x/\D.is w aA.none.others x.d v:=by
 obtain⟨hQ,h⟩:=h
 obtain⟨x,h1,h2⟩:=aAJ (S:=aA.none.others) (fun _=>rfl) hQ dt t v.cells.toList (d,p) rB h hw
 refine⟨x,h1,?_⟩
 cases dt with
 |int k=>
  unfold xC at rB
  split at rB
  ·rename_i ht
   obtain⟨n,rfl⟩:=okWide_int ht eX
   simp only[DT.ok] at h1
   obtain⟨m,rfl,_⟩:=h1
   exact yO rfl h2 rfl
  ·cases rB
 |bool=>
  unfold xC at rB
  split at rB
  ·rename_i ht
   obtain⟨n,rfl⟩:=okWide_bool ht eX
   simp only[DT.ok] at h1
   obtain⟨m,rfl⟩:=h1
   exact yO rfl h2 rfl
  ·cases rB
 |string=>
  unfold xC at rB
  split at rB
  ·rename_i ht
   obtain⟨n,rfl⟩:=okWide_string ht eX
   simp only[DT.ok] at h1
   obtain⟨m,rfl,_⟩:=h1
   exact yO rfl h2 rfl
  ·cases rB
 |slice sz sY e=>
  unfold xC at rB
  split at rB
  ·rename_i ht
   obtain⟨a,len,cap,rfl⟩:=okWide_slice ht eX
   simp only[DT.ok] at h1
   obtain⟨m,rfl,_⟩:=h1
   exact yO rfl h2 rfl
  ·cases rB
 |struct ds=>
  unfold xC at rB
  split at rB
  ·rename_i fs ht
   simp only[Value.okWide,ht] at eX
   obtain⟨cs,rfl,_⟩:=eX
   simp only[DT.ok] at h1
   obtain⟨m,rfl,_⟩:=h1
   simp only[X.d,D.is]
   exact⟨cs.toList,by simp,by simpa only[X.cs,Value.cells] using h2⟩
  ·cases rB
 |array n e=>
  unfold xC at rB
  split at rB
  ·rename_i m te ht
   simp only[Value.okWide,ht] at eX
   obtain⟨cs,rfl,_⟩:=eX
   simp only[DT.ok] at h1
   obtain⟨m,rfl,_⟩:=h1
   simp only[X.d,D.is]
   exact⟨cs.toList,by simp,by simpa only[X.cs,Value.cells] using h2⟩
  ·cases rB
end Go.Proofs.YtelbfbioomcmeaaGreatDoor
namespace Go.Proofs.YtelbfbioomcmeaaGreatDoor
open Go.RowKit
theorem bN {P:Program} {f:FuncId} {args:List D} {H:aA} {x:D} (h:∀eL,H.le eL->aT P f args eL fun d H'=>d=x/\eL=H'):dY P f args H fun d A=>A=aA.none/\d=x:=
 K1 h fun _ _ _ hh=>⟨.none,rQ _,hh.2.symm,rfl,hh.1⟩
theorem UP {x:X} (h:DT.ok (.int .i64) x):∃n:Int,x=.int .i64 n/\ -9223372036854775808<=n/\n<=9223372036854775807:=by
 simp only[DT.ok] at h
 obtain⟨n,rfl,hn⟩:=h
 simp [Lit.wf,IntKind.min,IntKind.max,IntKind.signed,IntKind.bits] at hn
 exact⟨n,rfl,by omega⟩
def xI (n:Int):X:=.int .i64 n
def U9 (n:Int):Prop:= -9223372036854775808<=n/\n<=9223372036854775807
end Go.Proofs.YtelbfbioomcmeaaGreatDoor
namespace Go.Proofs.YtelbfbioomcmeaaGreatDoor
open Go.Maps (Keyed)
open Go.RowKit
theorem MI {cx:Cx} {c:Code} {Q:Exit->St->Prop} {s:St} (I:Nat->St->Prop) (n:Nat) (h0:I n s)
  (round:∀k s,I k s->W cx c (iV (fun s'=>∃k',LtN k' k/\I k' s') Q) s):W cx (.loop c) Q s:=by
 have mu:∀s:St,(∃k,I k s)->I (Classical.epsilon fun k=>I k s/\∀j,I j s->k<=j) s/\∀j,I j s->(Classical.epsilon fun k=>I k s/\∀j,I j s->k<=j)<=j:=fun s h=>
  O6 (p:=fun k=>I k s/\∀j,I j s->k<=j) (aCC (fun k=>I k s) h)
 refine aAW (fun s=>∃k,I k s) (fun s=>Classical.epsilon fun k=>I k s/\∀j,I j s->k<=j) s.H (aE _) ⟨n,h0⟩ ?_
 rintro s1 hex
 obtain⟨h1,h2⟩:=mu s1 hex
 refine sA (round _ s1 h1) fun e s' q=>?_
 cases e with
 |normal=>
  obtain⟨k',gL,hI⟩:=q
  refine⟨s'.H,aE _,⟨k',hI⟩,?_⟩
  exact Nat.lt_of_le_of_lt ((mu s' ⟨k',hI⟩).2 k' hI) gL
 |_=>exact q
def Gk (H0:aA) (e:TypeId) (sz:Nat) (els:List (List D)) (d:D) (H:aA) (ob:Option Nat):Prop:=
 (ob=none/\d=.val (.slice none 0 0)/\els=[])\/∃c o k gO,ob=some c/\d=.os c o sz k els.length/\H0 c=none/\H c=some (.row e o sz gO)/\gO.drop k=els/\k<=gO.length
theorem Gk.of {H0:aA} {e:TypeId} {sz:Nat} {els:List (List D)} {d:D} {H:aA} {ob:Option Nat} (h:Gl H0 e sz els d H ob):Gk H0 e sz els d H ob:=by
 rcases h with h|⟨c,o,h1,h2,h3,h4⟩
 ·exact .inl h
 ·exact .inr ⟨c,o,0,els,h1,h2,h3,h4,rfl,tV _⟩
theorem Gk.jY {H0:aA} {e:TypeId} {sz:Nat} {els:List (List D)} {d:D} {H H':aA} {ob:Option Nat} (h:Gk H0 e sz els d H ob) (hk:∀c,ob=some c->H' c=H c):Gk H0 e sz els d H' ob:=by
 rcases h with h|⟨c,o,k,gO,h1,h2,h3,h4,h5,h6⟩
 ·exact .inl h
 ·exact .inr ⟨c,o,k,gO,h1,h2,h3,(hk c h1).trans h4,h5,h6⟩
theorem Gk.cells {H0:aA} {e:TypeId} {sz:Nat} {els:List (List D)} {d:D} {H:aA} {ob:Option Nat} (h:Gk H0 e sz els d H ob):D.cells d=some [d]:=by
 rcases h with⟨_,rfl,_⟩|⟨c,o,_,_,_,rfl,_⟩ <;> rfl
theorem Gk.cons {H0:aA} {e:TypeId} {sz:Nat} {x:List D} {els:List (List D)} {d:D} {H:aA} {ob:Option Nat} (h:Gk H0 e sz (x::els) d H ob):∃c o k gO,ob=some c/\d=.os c o sz k (els.length+1)/\H0 c=none/\H c=some (.row e o sz gO)/\gO.drop k=x::els/\k<=gO.length/\gO[k]?=some x/\gO.drop (k+1)=els/\k+1<=gO.length:=by
 rcases h with⟨_,_,h⟩|⟨c,o,k,gO,h1,h2,h3,h4,h5,h6⟩
 ·cases h
 ·have gL:k<gO.length:=by
   have:=cV List.length h5
   rw[kG,fN] at this;omega
  rw[dI gL] at h5
  injection h5 with h5 h7
  exact⟨c,o,k,gO,h1,by simpa using h2,h3,h4,by rw[dI gL,h5,h7],h6,by rw[cP gL,h5],h7,gL⟩
theorem XV {P:Program} {H0 H:aA} {t xt e:TypeId} {td xd:Ti} {sz sY:Nat} {zs:List Value} {ed:TD} {els new:List (List D)} {x y:D} {K:D->aA->Prop} {ob:Option Nat}
  (h1:aS P t=some td) (Y6:td.d=.slice e) (h2:aS P xt=some xd) (h2':xd.d.lZ=true) (h3:aS P e=some ⟨ed,sz,sY,some zs⟩) (hzs:zs.length=sz) (hby:sY≠0)
  (aR:H0.le H) (hs:Gk H0 e sz els x H ob) (hy:jZ H sz y (·=new)) (hb:(els.length+new.length) * sY<=140737488355328)
  (hk:∀d H' ob',Gl H0 e sz (els++new) d H' ob'->H0.le H'->(∀b z,H b=some z->ob≠some b->H' b=some z/\ob'≠some b)->K d H'):VF P H t xt x y K:=by
 rcases hs with hs|⟨c,o,k,gO,rfl,rfl,CP,hc,hd,F8⟩
 ·exact cY h1 Y6 h2 h2' h3 hzs hby aR (.inl hs) hy hb hk
 ·obtain⟨d0,i0,j0,k0⟩:=td
  simp only at Y6
  subst Y6
  unfold Go.Proofs.YtelbfbioomcmeaaGreatDoor.VF
  rw[h1,h2]
  simp only
  refine⟨h2',?_⟩
  rw[h3]
  simp only
  refine⟨hzs,hby,RL hy ?_⟩
  refine⟨trivial,hb,?_⟩
  rw[hc]
  simp only
  have eB:=cV List.length hd
  rw[kG] at eB
  refine⟨trivial,trivial,trivial,by omega,fun b' o' D9=>?_⟩
  have h0:H0 b'=none:=by
   cases hx:H0 b' with
   |none=>rfl
   |some x=>
    have h5:=aR _ _ hx
    have fP:b'≠c:=fun e=>by rw[e,CP] at hx;cases hx
    rw[bP fP,h5] at D9;cases D9
  refine hk _ _ (some b') (.inr ⟨b',o',rfl,by rw[bJ],h0,?_⟩) (nH (aA.N8 aR CP) D9) fun b z hz fP=>?_
  ·rw[aQ,hd,kW]
  ·have hbc:b≠c:=fun e=>fP (by rw[e])
   have QJ:b≠b':=fun e=>by rw[<-e,bP hbc,hz] at D9;cases D9
   exact⟨by rw[aP QJ,bP hbc];exact hz,fun e=>QJ (by injection e with e;exact e.symm)⟩
structure lC (m:List (Value×D)) (f:Int->Option D):Prop where
 keys:∀p∈m,∃x:Int,(-9223372036854775808<=x/\x<=9223372036854775807)/\p.1=.int .i64 x
 get:∀x:Int,mQ m (.int .i64 x)=f x
theorem lC.nil:lC [] fun _=>Option.none:=⟨(fun p hp=>by cases hp),(fun x=>rfl)⟩
theorem CZ:∀{m:List (Value×D)} {x:Value} {d:D} {p:Value×D},p∈gI m x d->p=(x,d)\/p∈m
 |[],x,d,p,h=>by simp only[gI,eS] at h;exact .inl h
 |q::m,x,d,p,h=>by
  simp only[gI] at h
  split at h
  ·rcases eG.1 h with h|h
   ·exact .inl h
   ·exact .inr (jR _ h)
  ·rcases eG.1 h with h|h
   ·exact .inr (h▸wN)
   ·rcases CZ h with h|h
    ·exact .inl h
    ·exact .inr (jR _ h)
theorem lC.set {m:List (Value×D)} {f:Int->Option D} (h:lC m f) {x:Int} (hx: -9223372036854775808<=x/\x<=9223372036854775807) (d:D):lC (gI m (.int .i64 x) d) fun y=>if y=x then some d else f y where
 keys:=fun p hp=>by
  rcases CZ hp with rfl|hp
  ·exact⟨x,hx,rfl⟩
  ·exact h.keys p hp
 get:=fun y=>by
  by_cases e:y=x
  ·subst e;rw[lX,aH rfl]
  ·rw[rI _ _ (fun he=>e (by injection he with _ he;exact he.symm)),aD e];exact h.get y
theorem yZ {P:Program} {k:TypeId} (hk:P.underlying k=some (.int .i64)) {x:Int} (hx: -9223372036854775808<=x/\x<=9223372036854775807):∃l,keyOf P k (.int .i64 x)=some l:=by
 unfold keyOf
 rw[hk]
 simp only[mapKey,hk]
 rw[aH ⟨trivial,by simp [Lit.wf,IntKind.min,IntKind.max,IntKind.signed,IntKind.bits];omega⟩]
 exact⟨_,rfl⟩
theorem lC.ok {P:Program} {k:TypeId} (hk:P.underlying k=some (.int .i64)) {m:List (Value×D)} {f:Int->Option D} (h:lC m f) {x:Int} (hx: -9223372036854775808<=x/\x<=9223372036854775807):kOK P k m (.int .i64 x):=
 ⟨Go.Maps.int_keyed hk,yZ hk hx,fun p hp=>by obtain⟨y,hy,e⟩:=h.keys p hp;rw[e];exact yZ hk hy⟩
theorem lC.congr {m:List (Value×D)} {f g:Int->Option D} (h:lC m f) (he:∀x,f x=g x):lC m g:=⟨h.keys,fun x=>(h.get x).trans (he x)⟩
end Go.Proofs.YtelbfbioomcmeaaGreatDoor
namespace Go.Proofs.YtelbfbioomcmeaaGreatDoor
open Go.RowKit
def nQ (N:St->Prop):Exit->St->Prop
 | .normal,s=>N s
 |_,_=>False
theorem aXt (N:St->Prop) (s:St):nQ N .normal s=N s:=rfl
theorem WZ {N:St->Prop} {Q:Exit->St->Prop} (h:∀s,N s->Q .normal s):∀e s,nQ N e s->Q e s:=fun e s q=>by
 cases e <;> first|exact h s q|exact q.elim
def E0 (cx:Cx) (aV:Array Oper) (Q:Exit->St->Prop):List Oper->St->Prop
 |[],s=>Q .normal s
 |o::dD,s=>(match o.guard with
  |none=>tN cx o s fun s'=>if kA o.op then WL cx aV dD Q s' else E0 cx aV Q dD s'
  |some _=>WL cx aV (o::dD) Q s)
def E1 (cx:Cx) (aV:Array Oper) (Q:Exit->St->Prop):List Oper->St->Prop
 |[],s=>Q .normal s
 |o::dD,s=>(match o.guard with
  |none=>dM cx o s fun s'=>if kA o.op then WL cx aV dD Q s' else E1 cx aV Q dD s'
  |some _=>WL cx aV (o::dD) Q s)
theorem I2 {n:Nat} {o:Oper} {l:List Oper} (hl:eP n (o::l)=true):BS n o.dst/\eP n l=true:=by
 simp only[eP,l8,eF] at hl
 refine⟨?_,hl.2⟩
 have:=hl.1
 unfold BS
 cases ho:o.dst with
 |none=>trivial
 |some t=>rw[ho] at this;simpa using this
theorem cD {cx:Cx} {aV:List Oper} {Q:Exit->St->Prop}:∀{l:List Oper} {s:St},eP cx.n l=true->E0 cx aV.toArray Q l s->WL cx aV.toArray l Q s
 |[],s,_,h=>MF h
 |o::dD,s,hl,h=>by
  obtain⟨hd,hr⟩:=I2 hl
  simp only[E0] at h
  split at h
  ·rename_i hg
   refine tF hg (yM (tO hd h) fun s' h'=>?_)
   split at h'
   ·exact h'
   ·exact cD hr h'
  ·exact h
theorem vW {cx:Cx} {aV:List Oper} {Q:Exit->St->Prop}:∀{l:List Oper} {s:St},eP cx.n l=true->E1 cx aV.toArray Q l s->WL cx aV.toArray l Q s
 |[],s,_,h=>MF h
 |o::dD,s,hl,h=>by
  obtain⟨hd,hr⟩:=I2 hl
  simp only[E1] at h
  split at h
  ·rename_i hg
   refine tF hg (yM (nO hd h) fun s' h'=>?_)
   split at h'
   ·exact h'
   ·exact vW hr h'
  ·exact h
theorem aGA {cx:Cx} {id:Nat} {aV:List Oper} {Q:Exit->St->Prop} {s:St} (eX:eP cx.n aV=true) (h:∀N:St->Prop,(∀s,Q .normal s->N s)->E0 cx aV.toArray (nQ N) aV s):W cx (.region id aV.toArray false) Q s:=
 sA (B8 (cD eX (h (Q .normal) fun _ h=>h))) (WZ fun _ h=>h)
theorem aGB {cx:Cx} {id:Nat} {aV:List Oper} {Q:Exit->St->Prop} {s:St} (eX:eP cx.n aV=true) (h:∀N:St->Prop,(∀s,Q .normal s->N s)->E1 cx aV.toArray (nQ N) aV s):W cx (.region id aV.toArray false) Q s:=
 sA (B8 (vW eX (h (Q .normal) fun _ h=>h))) (WZ fun _ h=>h)
def gS (cx:Cx) (o:Oper) (s:St) (t:Nat) (eC:Bool) (d:D) (N:St->Prop):Prop:=
 match d with
 | .val (.bool b)=>vU (b==eC) (tN cx o s N) (N (s.put o.dst (.val undef)))
 | .val (.tuple ⟨[]⟩)=>N (s.put o.dst (.val undef))
 |_=>False
def gT (cx:Cx) (o:Oper) (s:St) (t:Nat) (eC:Bool) (d:D) (N:St->Prop):Prop:=
 match d with
 | .val (.bool b)=>vU (b==eC) (dM cx o s N) (N (s.put o.dst (.val undef)))
 | .val (.tuple ⟨[]⟩)=>N (s.put o.dst (.val undef))
 |_=>False
theorem aFZ {cx:Cx} {aV:List Oper} {o:Oper} {dD:List Oper} {Q:Exit->St->Prop} {s:St} {j t:Nat} {eC:Bool} (hg:o.guard=some (j,eC)) (hj:mF aV.toArray j=some t) (eX:eP cx.n aV=true) (hl:eP cx.n (o::dD)=true)
  {d:D} (hd:s.fr t=d) (h:(∃b,d=.val (.bool b)/\(b=eC->WO cx o (WL cx aV.toArray dD Q) s)/\(b= !eC->WL cx aV.toArray dD Q (s.put o.dst (.val undef))))\/(d=.val undef/\WL cx aV.toArray dD Q (s.put o.dst (.val undef)))):WL cx aV.toArray (o::dD) Q s:=by
 obtain⟨hdo,hr⟩:=I2 hl
 have htn:t<cx.n:=by
  unfold mF at hj
  cases hq:aV.toArray[j]? with
  |none=>rw[hq] at hj;cases hj
  |some o'=>
   rw[hq] at hj
   have:=(eD.1 eX) o' (by have:=zP hq;simpa using this)
   simp at hj
   rw[hj] at this
   simpa using this
 refine xJ hg hj htn (hU hdo) ?_
 rw[hd]
 exact h
theorem mE {cx:Cx} {aV:List Oper} {o:Oper} {dD:List Oper} {Q:Exit->St->Prop} {s:St} {j t:Nat} {eC:Bool} (hg:o.guard=some (j,eC)) (hj:mF aV.toArray j=some t) (eX:eP cx.n aV=true) (hl:eP cx.n (o::dD)=true)
  (h:∀N:St->Prop,(∀s,WL cx aV.toArray dD Q s->N s)->gS cx o s t eC (s.fr t) N):WL cx aV.toArray (o::dD) Q s:=by
 have h:=h (WL cx aV.toArray dD Q) fun _ h=>h
 refine aFZ hg hj eX hl rfl ?_
 unfold gS at h
 split at h
 ·rename_i b hb
  rw[sR] at h
  exact .inl ⟨b,hb,fun e=>tO (I2 hl).1 (h.1 e),h.2⟩
 ·rename_i hb
  exact .inr ⟨hb,h⟩
 ·exact h.elim
theorem aIT {cx:Cx} {aV:List Oper} {o:Oper} {dD:List Oper} {Q:Exit->St->Prop} {s:St} {j t:Nat} {eC:Bool} (hg:o.guard=some (j,eC)) (hj:mF aV.toArray j=some t) (eX:eP cx.n aV=true) (hl:eP cx.n (o::dD)=true)
  (h:∀N:St->Prop,(∀s,WL cx aV.toArray dD Q s->N s)->gT cx o s t eC (s.fr t) N):WL cx aV.toArray (o::dD) Q s:=by
 have h:=h (WL cx aV.toArray dD Q) fun _ h=>h
 refine aFZ hg hj eX hl rfl ?_
 unfold gT at h
 split at h
 ·rename_i b hb
  rw[sR] at h
  exact .inl ⟨b,hb,fun e=>nO (I2 hl).1 (h.1 e),h.2⟩
 ·rename_i hb
  exact .inr ⟨hb,h⟩
 ·exact h.elim
theorem lJ {cx:Cx} {Q:Exit->St->Prop} {s:St} {c:Operand} {x y:Code} (h:∀A B:Prop,(W cx x Q s->A)->(W cx y Q s->B)->tH (s.ev c) A B):W cx (.cond c x y) Q s:=
 qM (h _ _ (fun h=>h) fun h=>h)
def aFT (P:Program) (G:Option Tmp->List D->D->aA->Prop) (H:aA) (aV:Array Oper) (Q:St->Prop):List Oper->St->Prop
 |[],s=>Q s
 |o::dD,s=>(match o.guard with
  |none=>fD P G H s o fun d A=>n9 A s.H->aFT P G H aV Q dD (s.out o d A)
  |some _=>G4 P G H aV Q (o::dD) s)
theorem XN {P:Program} {G:Option Tmp->List D->D->aA->Prop} {H:aA} {aV:Array Oper} {Q:St->Prop}:∀{l:List Oper} {s:St},aFT P G H aV Q l s->G4 P G H aV Q l s
 |[],s,h=>h
 |o::dD,s,h=>by
  simp only[aFT] at h
  split at h
  ·rename_i hg
   show o8 P G H aV s o _
   unfold o8
   rw[hg]
   exact(CA P G H s o).2 _ _ (fun d A hk hd=>XN (hk hd)) h
  ·exact h
def gdY (P:Program) (G:Option Tmp->List D->D->aA->Prop) (H:aA) (s:St) (o:Oper) (eC:Bool) (d:D) (K:D->aA->Prop):Prop:=
 match d with
 | .val (.bool b)=>vU (b==eC) (fD P G H s o K) (K (.val undef) .none)
 | .val (.tuple ⟨[]⟩)=>K (.val undef) .none
 |_=>False
theorem aQs {P:Program} {G:Option Tmp->List D->D->aA->Prop} {H:aA} {aV:List Oper} {Q:St->Prop} {o:Oper} {dD:List Oper} {s:St} {j t:Nat} {eC:Bool} (hg:o.guard=some (j,eC)) (hj:mF aV.toArray j=some t)
  (h:∀N:St->Prop,(∀s,G4 P G H aV.toArray Q dD s->N s)->gdY P G H s o eC (s.fr t) fun d A=>n9 A s.H->N (s.out o d A)):G4 P G H aV.toArray Q (o::dD) s:=by
 have h:=h (G4 P G H aV.toArray Q dD) fun _ h=>h
 show o8 P G H aV.toArray s o _
 unfold o8
 rw[hg]
 simp only[hj]
 unfold gdY at h
 exact h
theorem aDH {cx:Cx} {id:Nat} {aV:List Oper} {Q:Exit->St->Prop} {s:St} (G:Option Tmp->List D->D->aA->Prop) (hm:cx.P.follows .mixedOrders=true) (eX:eP cx.n aV=true) (mX:tJ aV=true)
  (h:∀N:St->Prop,(∀s,Q .normal s->N s)->G4 cx.P G s.H aV.toArray N aV s):W cx (.region id aV.toArray true) Q s:=
 sA (MH (Q:=nQ (Q .normal)) G hm eX mX (h (Q .normal) fun _ h=>h)) (WZ fun _ h=>h)
def aAL (P:Program) (fl wc:Option Tmp->Bool) (G:Option Tmp->List D->D->aA->Prop) (GW:Option Tmp->List D->aA->D->aA->Prop) (aV:Array Oper) (Q:St->Prop):aA->List Oper->St->Prop
 |_,[],s=>Q s
 |H,o::dD,s=>(match o.guard with
  |none=>if iK wc o=true then nP P GW s o fun d H'=>aAL P fl wc G GW aV Q H' dD (s.nA o d H')
   else fD P G (wY fl H o) s o fun d A=>n9 A s.H->aAL P fl wc G GW aV Q H dD (s.out o d A)
  |some _=>BY P fl wc G GW aV Q H (o::dD) s)
theorem OZ {P:Program} {fl wc:Option Tmp->Bool} {G:Option Tmp->List D->D->aA->Prop} {GW:Option Tmp->List D->aA->D->aA->Prop} {aV:Array Oper} {Q:St->Prop}:∀{l:List Oper} {H:aA} {s:St},aAL P fl wc G GW aV Q H l s->BY P fl wc G GW aV Q H l s
 |[],H,s,h=>h
 |o::dD,H,s,h=>by
  simp only[aAL] at h
  split at h
  ·rename_i hg
   unfold BY
   split at h
   ·rename_i hw
    rw[aH hw]
    unfold gW
    rw[hg]
    exact(JR P GW s o).2 _ _ (fun d A hk=>OZ hk) h
   ·rename_i hw
    rw[aD hw]
    unfold o8
    rw[hg]
    exact(CA P G _ s o).2 _ _ (fun d A hk hd=>OZ (hk hd)) h
  ·exact h
theorem aDI {cx:Cx} {id:Nat} {aV:List Oper} {Q:Exit->St->Prop} {s:St} (fl wc:Option Tmp->Bool) (G:Option Tmp->List D->D->aA->Prop) (GW:Option Tmp->List D->aA->D->aA->Prop) (hm:cx.P.follows .mixedOrders=true)
  (eX:eP cx.n aV=true) (mX:tJ aV=true) (EF:JL aV (FU aV)=true) (T2:RU fl wc aV (FU aV)=true)
  (h:∀N:St->Prop,(∀s,Q .normal s->N s)->BY cx.P fl wc G GW aV.toArray N s.H aV s):W cx (.region id aV.toArray true) Q s:=
 sA (aGC (Q:=nQ (Q .normal)) fl wc G GW hm eX mX EF T2 (h (Q .normal) fun _ h=>h)) (WZ fun _ h=>h)
theorem dE {cx:Cx} {id:Nat} {aV:List Oper} {Q:Exit->St->Prop} {s:St} (G:Option Tmp->List D->D->aA->Prop) (h:∀N:St->Prop,(∀s,Q .normal s->N s)->G4 cx.P G s.H aV.toArray N aV s) (hm:cx.P.follows .mixedOrders=true:=by kernel_rfl) (eX:eP cx.n aV=true:=by kernel_rfl) (mX:tJ aV=true:=by kernel_rfl):W cx (.region id aV.toArray true) Q s:=aDH G hm eX mX h
theorem wE {cx:Cx} {id:Nat} {aV:List Oper} {Q:Exit->St->Prop} {s:St} (fl wc:Option Tmp->Bool) (G:Option Tmp->List D->D->aA->Prop) (GW:Option Tmp->List D->aA->D->aA->Prop) (h:∀N:St->Prop,(∀s,Q .normal s->N s)->aAL cx.P fl wc G GW aV.toArray N s.H aV s)
  (hm:cx.P.follows .mixedOrders=true:=by kernel_rfl) (eX:eP cx.n aV=true:=by kernel_rfl) (mX:tJ aV=true:=by kernel_rfl) (EF:JL aV (FU aV)=true:=by kernel_rfl) (T2:RU fl wc aV (FU aV)=true:=by kernel_rfl):W cx (.region id aV.toArray true) Q s:=aDI fl wc G GW hm eX mX EF T2 fun N hN=>OZ (h N hN)
theorem aFz {cx:Cx} {x y:Code} {Q:Exit->St->Prop} {s:St} (t:Nat) (d0 d:D) (hi:Imp d0 d) (M:St->Prop) (h1:W cx x (iV (fun s'=>M s'\/(s'.fr t=d0/\M (s'.put (some t) d))) (fun _ _=>False)) s) (h2:∀s,M s->W cx y Q s):W cx (.seq x y) Q s:=
 VE _ h1 fun s' h=>by
  rcases h with h|⟨h,hm⟩
  ·exact h2 s' h
  ·exact aIU t d (fun w v hv=>hi _ _ _ (by rw[h] at hv;exact hv)) (h2 _ hm)
theorem VT {H:aA} {b o sz n:Nat} {t:TypeId} {els:List (List D)} (h:H b=some (.row t o sz els)) (hn:n=els.length):kU H sz (.os b o sz 0 n) (·=els):=by
 subst hn
 simp only[kU,h,iY,kW]
 exact⟨trivial,trivial,trivial,by omega,trivial⟩
def Dom (H0 H':aA):Prop:=∀b,H' b=none->H0 b=none
theorem NG {H0 H':aA} (h:Dom H0 H') (w:World):Ev H' w H0 w:=⟨rfl,rfl,rfl,fA _,fun b _ hn=>⟨rfl,h b hn⟩,fun _ _ _ fr h=>⟨_,fr,h,rfl⟩⟩
theorem QC {H0 H':aA} {d:D} (h:Dom H0 H'):J6 H0 H' d d:=fun w v _ hv=>pN (NG h w).kept d hv
theorem aBR {H0 H':aA} {b o sz k n:Nat} {ty:TypeId} {els:List (List D)} (hd:Dom H0 H') (hb:H' b=some (.row ty o sz els)) (h0:H0 b=none) (hn:k+n<=els.length):J6 H0 H' (.os b o sz k n) (.seq sz ((els.drop k).take n)):=fun w v hH hv=>by
 have hd':Dom H0 (H'.del b):=fun c hc=>by
  by_cases e:c=b
  ·rw[e];exact h0
  ·rw[bP e] at hc;exact hd c hc
 exact pN (NG hd' w).kept _ (NJ hH hb hn hv)
theorem FV {H0 H':aA} {w:World} (hH:fQ w H') {g:Value->D}:∀{m:List (Value×D)} {vs:List Value},(∀p∈m,J6 H0 H' p.2 (g p.1))->aW w H'.others (m.map (·.2)) vs->aW w H0.others ((m.map fun p=>(p.1,g p.1)).map (·.2)) vs
 |[],vs,_,h=>by simp only[pM,aW] at h ⊢;exact h
 |p::m,vs,hf,h=>by
  simp only[fT,aW] at h ⊢
  obtain⟨u,us,rfl,h1,h2⟩:=h
  exact⟨u,us,rfl,hf p (by simp) w u hH h1,FV hH (fun q hq=>hf q (by simp [hq])) h2⟩
theorem FN:∀{m:List (Value×D)} {p:Value×D},(m.map (·.1)).Nodup->p∈m->mQ m p.1=some p.2
 |[],p,_,h=>by cases h
 |q::m,p,hn,h=>by
  rw[fT,HI] at hn
  simp only[mQ]
  rcases eG.1 h with rfl|h
  ·rw[aH rfl]
  ·rw[aD fun (e:q.1=p.1)=>hn.1 (by rw[e];exact List.mem_map_of_mem (f:=(·.1)) h)]
   exact FN hn.2 h
theorem LO (g:Value->D):∀(m:List (Value×D)) (x:Value),mQ (m.map fun p=>(p.1,g p.1)) x=(mQ m x).map fun _=>g x
 |[],x=>rfl
 |q::m,x=>by
  simp only[fT,mQ]
  by_cases e:q.1=x
  ·rw[aH e,aH e,e];rfl
  ·rw[aD e,aD e];exact LO g m x
theorem lC.aXs {m:List (Value×D)} {f:Int->Option D} (h:lC m f) (g:Value->D):lC (m.map fun p=>(p.1,g p.1)) fun x=>(f x).map fun _=>g (.int .i64 x) where
 keys:=fun p hp=>by
  obtain⟨q,hq,rfl⟩:=mT.1 hp
  exact h.keys q hq
 get:=fun x=>by rw[LO,h.get]
theorem fQ.OM {H0 H':aA} {w:World} (hd:Dom H0 H') (hH:fQ w H')
  (h:∀b x,H0 b=some x->H' b=some x\/∃(m:List (Value×D)) (g:Value->D),H' b=some (.map m)/\x=.map (m.map fun p=>(p.1,g p.1))/\((m.map (·.1)).Nodup->∀p∈m,J6 H0 H' p.2 (g p.1))):fQ w H0:=fun b x hb=>by
 rcases h b x hb with h|⟨m,g,h1,rfl,h2⟩
 ·exact(NG hd w).rC rfl (hH b x h)
 ·obtain⟨es,kJ,e1,e2,e3,e4,e5⟩:=hH b _ h1
  refine⟨es,kJ,e1,?_,FV hH (h2 e4) e3,?_⟩
  ·rw[e2,List.map_map];rfl
  ·rw[List.map_map];exact⟨e4,e5⟩
theorem aT.OM {P:Program} {f:FuncId} {ds:List D} {H:aA} {K K0:D->aA->Prop} (h:aT P f ds H K)
  (hk:∀d H',K d H'->∃d0 H0,Dom H0 H'/\(∀w,fQ w H'->fQ w H0)/\J6 H0 H' d d0/\K0 d0 H0):aT P f ds H K0:=
 And.intro h.1 fun w vs sN hH hG=>(h.2 w vs sN hH hG).mono fun e w' ⟨v,d,H',he,hd,hH',iP,yW⟩=>by
  obtain⟨d0,H0,h1,h2,h3,h4⟩:=hk d H' yW
  exact⟨v,d0,H0,he,h3 w' v hH' hd,h2 w' hH',iP.trans (NG h1 w'),h4⟩
def i64 (n:Int):D:=.val (.int .i64 n)
theorem wS (i:Nat) (h: -9223372036854775808<=(i:Int)+1/\(i:Int)+1<=9223372036854775807):IntKind.i64.wrap ((i:Int)+1)=((i+1:Nat):Int):=by rw[aY h];omega
theorem lm {α β:Type} (f:α->β) (l:List α):(List.map f l).length=l.length:=bK _
theorem lF (i n:Nat) (h:n<=i):((i:Int)<(n:Int))=False:=aI (by omega)
theorem lT (i n:Nat) (h:i<n):((i:Int)<(n:Int))=True:=aK (by omega)
theorem yR {P Q:Prop} (hq:Q) (h:Q->P:=by intro h;simp (maxSteps:=4000000) only[vX,vB,vT,vZ,nF,kA,ZV,LL,OB,lW,iR,lY,↓oL,TP,dM,TL,MM,SS,xE,wU,AF,AG,rA,oZ,qZ,m8,D.nilPtr,D.mK,D.mR,jH,SN,SU,GN,kU,qC,gY,lR,P6,Q9,RA,RE,BQ,PH,D.cells,qD,TJ,TE,AI,gJ,gG,PR,O7,pC,UK,AH,SB,jZ,TD.lZ,TD.agg,VI,CG,wW,YE,uZ,x7,x6,RK,P5,tH,BW,iV,nK,Value.oneCell',oR,oP,ne_eq,reduceCtorEq,sV,oT,fU,fE,↓reduceIte,Nat.reduceEqDiff,Int.reduceLE,Int.reduceLT,Int.reduceNeg,Int.reduceToNat,Nat.reduceAdd,Nat.reduceMul,Nat.reduceLeDiff,Nat.reduceMod,Nat.reduceSub,Int.reduceEq,Int.reduceNe,Int.reduceAdd,Int.reduceSub,Int.reduceMul,oQ,fH,fM,eQ,cB,fL,mD,fK,jE,iC,jN,jJ,jK,jI,qV,tN,bsQ,aXt,E0,E1,gS,gT,i64,fs];exact h):P:=h hq
theorem CL {P Q:Prop} (hq:Q) (h:Q->P:=by intro h;simp (maxSteps:=4000000) only[vX,vB,vT,vZ,nF,kA,ZV,LL,OB,lW,iR,lY,↓oL,TP,dM,TL,MM,SS,xE,wU,AF,AG,rA,oZ,qZ,m8,D.nilPtr,D.mK,D.mR,jH,SN,SU,GN,kU,qC,gY,lR,P6,Q9,RA,RE,BQ,PH,D.cells,qD,TJ,TE,AI,gJ,gG,PR,O7,pC,UK,AH,SB,jZ,TD.lZ,TD.agg,VI,CG,wW,YE,uZ,x7,x6,RK,P5,tH,BW,iV,nK,Value.oneCell',oR,oP,ne_eq,reduceCtorEq,sV,oT,fU,fE,↓reduceIte,Nat.reduceEqDiff,Int.reduceLE,Int.reduceLT,Int.reduceNeg,Int.reduceToNat,Nat.reduceAdd,Nat.reduceMul,Nat.reduceLeDiff,Nat.reduceMod,Nat.reduceSub,Int.reduceEq,Int.reduceNe,Int.reduceAdd,Int.reduceSub,Int.reduceMul,oQ,fH,fM,eQ,cB,fL,mD,fK,jE,iC,jN,jJ,jK,jI,qV,tN,bsQ,i64,fs];exact h):P:=h hq
theorem evG {P Q:Prop} (hq:Q) (h:Q->P:=by intro h;simp (maxSteps:=4000000) only[vX,vB,vT,vZ,nF,kA,ZV,LL,OB,lW,iR,lY,↓oL,TP,dM,TL,MM,SS,xE,wU,AF,AG,rA,oZ,qZ,m8,D.nilPtr,D.mK,D.mR,jH,SN,SU,GN,kU,qC,gY,lR,P6,Q9,RA,RE,BQ,PH,D.cells,qD,TJ,TE,AI,gJ,gG,PR,O7,pC,UK,AH,SB,jZ,TD.lZ,TD.agg,VI,CG,wW,YE,uZ,x7,x6,RK,P5,tH,BW,iV,nK,Value.oneCell',oR,oP,ne_eq,reduceCtorEq,sV,oT,fU,fE,↓reduceIte,Nat.reduceEqDiff,Int.reduceLE,Int.reduceLT,Int.reduceNeg,Int.reduceToNat,Nat.reduceAdd,Nat.reduceMul,Nat.reduceLeDiff,Nat.reduceMod,Nat.reduceSub,Int.reduceEq,Int.reduceNe,Int.reduceAdd,Int.reduceSub,Int.reduceMul,oQ,fH,fM,eQ,cB,fL,mD,fK,jE,iC,jN,jJ,jK,jI,i64,fs];exact h):P:=h hq
theorem VV {P Q:Prop} (hq:Q) (h:Q->P:=by intro h;simp (maxSteps:=4000000) only[vX,vB,vT,vZ,nF,kA,ZV,LL,OB,lW,iR,lY,↓oL,TP,dM,TL,MM,SS,xE,wU,AF,AG,rA,oZ,qZ,m8,D.nilPtr,D.mK,D.mR,jH,SN,SU,GN,kU,qC,gY,lR,P6,Q9,RA,RE,BQ,PH,D.cells,qD,TJ,TE,AI,gJ,gG,PR,O7,pC,UK,AH,SB,jZ,TD.lZ,TD.agg,VI,CG,wW,YE,uZ,x7,x6,RK,P5,tH,BW,iV,nK,Value.oneCell',oR,oP,ne_eq,reduceCtorEq,sV,oT,fU,fE,↓reduceIte,Nat.reduceEqDiff,Int.reduceLE,Int.reduceLT,Int.reduceNeg,Int.reduceToNat,Nat.reduceAdd,Nat.reduceMul,Nat.reduceLeDiff,Nat.reduceMod,Nat.reduceSub,Int.reduceEq,Int.reduceNe,Int.reduceAdd,Int.reduceSub,Int.reduceMul,oQ,fH,fM,eQ,cB,fL,mD,fK,jE,iC,jN,jJ,jK,jI,aFT,aAL,gdY,fD,St.out,qY,rN,rH,rG,pJ,or_true,true_or,or_false,false_or,↓MN,↓aII,wY,TU,fS,iK,nP,St.nA,i64,fs];exact h):P:=h hq
theorem tS {cx:Cx} {id:Nat} {aV:List Oper} {Q:Exit->St->Prop} {s:St} (h:∀N:St->Prop,(∀s,Q .normal s->N s)->E0 cx aV.toArray (nQ N) aV s) (eX:eP cx.n aV=true:=by kernel_rfl):W cx (.region id aV.toArray false) Q s:=aGA eX h
theorem tT {cx:Cx} {id:Nat} {aV:List Oper} {Q:Exit->St->Prop} {s:St} (h:∀N:St->Prop,(∀s,Q .normal s->N s)->E1 cx aV.toArray (nQ N) aV s) (eX:eP cx.n aV=true:=by kernel_rfl):W cx (.region id aV.toArray false) Q s:=aGB eX h
theorem dmN {P:Prop} (h:∀N:St->Prop,(∀s,N s->N s)->P):P:=h (fun _=>True) fun _ h=>h
theorem tq {F P Q:Prop} (fs:F) (hq:Q) (h:F->Q->P:=by
 intro fs h
 (repeat(first|(refine FD _ ?_;try clear FD G1)|(refine F5 _ ?_;try clear F5 N1)|refine aG _ ?_|refine aB _ ?_|refine cX ?_|refine cW ?_|refine eH ?_|refine cF ?_|refine cG ?_|refine cC ?_|refine bO ?_|((first|refine tS fun N1 F5=>?_|refine mE rfl rfl (by kernel_rfl) (by kernel_rfl) fun G1 FD=>?_|refine cD (by kernel_rfl) ?_|refine lJ fun A1 B1 hA1 hB1=>?_);refine yR ?_;(first|(refine FD _ ?_;try clear FD G1)|(refine F5 _ ?_;try clear F5 N1)|refine aG _ ?_|refine aB _ ?_|(refine hA1 ?_;try clear hA1 hB1 A1 B1)|(refine hB1 ?_;try clear hA1 hB1 A1 B1)|skip))))
 (first|(revert FD;revert G1)|(have FD:=aG;revert FD;generalize Gx=G1;revert G1)|refine dmN ?_)
 (first|(revert F5;revert N1)|(have F5:=aB;revert F5;generalize Nx=N1;revert N1)|refine dmN ?_)
 exact h):P:=h fs hq
theorem to {F P Q:Prop} (fs:F) (hq:Q) (h:F->Q->P:=by
 intro fs h
 (repeat(first|(refine FD _ ?_;try clear FD G1)|(refine F5 _ ?_;try clear F5 N1)|refine aG _ ?_|refine aB _ ?_|refine cX ?_|refine cW ?_|refine eH ?_|refine cF ?_|refine cG ?_|refine cC ?_|refine bO ?_|((first|refine tT fun N1 F5=>?_|refine aIT rfl rfl (by kernel_rfl) (by kernel_rfl) fun G1 FD=>?_|refine vW (by kernel_rfl) ?_|refine lJ fun A1 B1 hA1 hB1=>?_);refine yR ?_;(first|(refine FD _ ?_;try clear FD G1)|(refine F5 _ ?_;try clear F5 N1)|refine aG _ ?_|refine aB _ ?_|(refine hA1 ?_;try clear hA1 hB1 A1 B1)|(refine hB1 ?_;try clear hA1 hB1 A1 B1)|skip))))
 (first|(revert FD;revert G1)|(have FD:=aG;revert FD;generalize Gx=G1;revert G1)|refine dmN ?_)
 (first|(revert F5;revert N1)|(have F5:=aB;revert F5;generalize Nx=N1;revert N1)|refine dmN ?_)
 exact h):P:=h fs hq
theorem dst {F P Q:Prop} (fs:F) (hq:Q) (h:F->Q->P:=by
 intro fs h
 (repeat((first|refine aQs rfl rfl fun G1 FD=>?_|refine XN ?_);refine VV ?_;(first|(refine FD _ ?_;try clear FD G1)|(refine F5 _ ?_;try clear F5 N1)|refine aG _ ?_|refine aB _ ?_|skip)))
 (first|(revert FD;revert G1)|(have FD:=aG;revert FD;generalize Gx=G1;revert G1)|refine dmN ?_)
 (first|(revert F5;revert N1)|(have F5:=aB;revert F5;generalize Nx=N1;revert N1)|refine dmN ?_)
 exact h):P:=h fs hq
structure Hd (P:Prop):Prop where
 out:P
theorem rt {F X P:Prop} {R Q:Exit->St->Prop} (aC:∀e s,e=.normal\/e=.ret->s.df=[]->R e s->Q e s) (fs:F) (hx:X) (h:(∀e s,e=.normal\/e=.ret->s.df=[]->R e s->Q e s)->F->Hd X->P:=by
 intro aC fs h
 (first|(show Q .ret _)|(show Q .normal _)|skip)
 refine aC _ _ (by first|exact .inr rfl|exact .inl rfl) (by first|rfl|assumption|(simp only[yF,vD];assumption)) ?_
 refine yR ?_
 exact h.out):P:=h aC fs ⟨hx⟩
theorem ON {F X P:Prop} {R Q:Exit->St->Prop} (aC:∀e s,e=.normal\/e=.ret->s.df=[]->R e s->Q e s) (fs:F) (hx:X) (h:(∀e s,e=.normal\/e=.ret->s.df=[]->R e s->Q e s)->F->Hd X->P:=by
 intro aC fs h
 (first|(show Q .ret _)|(show Q .normal _)|skip)
 refine aC _ _ (by first|exact .inr rfl|exact .inl rfl) (by first|rfl|assumption|(simp only[yF,vD];assumption)) ?_
 refine CL ?_
 exact h.out):P:=h aC fs ⟨hx⟩
theorem oz {F E P:Prop} {R Q:Exit->St->Prop} {H H':aA} (aC:∀e s,e=.normal\/e=.ret->s.df=[]->R e s->Q e s) (fs:F) (aR:H.le H') (e:E) (h:(∀e s,e=.normal\/e=.ret->s.df=[]->R e s->Q e s)->F->H.le H'->E->P:=by
 intro aC fs aR e
 (repeat(first|(refine FD _ ?_;try clear FD G1)|(refine F5 _ ?_;try clear F5 N1)|refine aG _ ?_|refine aB _ ?_|refine cX ?_|refine cW ?_|refine eH ?_|refine cF ?_|refine cG ?_|refine cC ?_|refine bO ?_|((first|refine tS fun N1 F5=>?_|refine mE rfl rfl (by kernel_rfl) (by kernel_rfl) fun G1 FD=>?_|refine cD (by kernel_rfl) ?_|refine lJ fun A1 B1 hA1 hB1=>?_);refine yR ?_;(first|(refine FD _ ?_;try clear FD G1)|(refine F5 _ ?_;try clear F5 N1)|refine aG _ ?_|refine aB _ ?_|(refine hA1 ?_;try clear hA1 hB1 A1 B1)|(refine hB1 ?_;try clear hA1 hB1 A1 B1)|skip))))
 (first|(show Q .ret _)|(show Q .normal _)|skip)
 refine aC _ _ (by first|exact .inr rfl|exact .inl rfl) (by first|rfl|assumption|(simp only[yF,vD];assumption)) ?_
 refine yR ?_
 exact⟨_,aE _,aR,_,aJ aR,by(rw[e];try rfl)⟩):P:=h aC fs aR e
def AtT (t:Nat) (P:Prop):Prop:=P
theorem aI8 {cx:Cx} {c:Code} {Q:Exit->St->Prop} {s:St} {t b o sz i k:Nat} {ty:TypeId} {els:List (List D)} {el:List D} (ht:s.fr t=.ep b o sz i k) (hb:s.H b=some (.row ty o sz els)) (hi:els[i]?=some el) (h:W cx c Q (s.gU t b k el)):AtT t (W cx c Q s):=bS t ht hb hi h
theorem fW {P Q:Prop} {H:aA} {b:Nat} (t:Nat) (hb:H b=Option.none) (hq:Q) (h:H b=Option.none->Q->AtT t P:=by
 intro hb h
 refine aI8 rfl (aQ _ _ _) rfl ?_
 simp only[St.gU,kN,fM,oN,gV,cB,l4,oH,lV,nV,oU hb,U5]
 exact h):P:=h hb hq
theorem cZ {A0 A1:Prop} (a0:A0) (a1:A1):A0/\A1:=⟨a0,a1⟩
theorem dZ {A0 A1 A2:Prop} (a0:A0) (a1:A1) (a2:A2):A0/\A1/\A2:=⟨a0,a1,a2⟩
theorem fJ {A0 A1 A2 A3:Prop} (a0:A0) (a1:A1) (a2:A2) (a3:A3):A0/\A1/\A2/\A3:=⟨a0,a1,a2,a3⟩
theorem gE {A0 A1 A2 A3 A4:Prop} (a0:A0) (a1:A1) (a2:A2) (a3:A3) (a4:A4):A0/\A1/\A2/\A3/\A4:=⟨a0,a1,a2,a3,a4⟩
theorem jA {A0 A1 A2 A3 A4 A5:Prop} (a0:A0) (a1:A1) (a2:A2) (a3:A3) (a4:A4) (a5:A5):A0/\A1/\A2/\A3/\A4/\A5:=⟨a0,a1,a2,a3,a4,a5⟩
theorem lM {A0 A1 A2 A3 A4 A5 A6:Prop} (a0:A0) (a1:A1) (a2:A2) (a3:A3) (a4:A4) (a5:A5) (a6:A6):A0/\A1/\A2/\A3/\A4/\A5/\A6:=⟨a0,a1,a2,a3,a4,a5,a6⟩
theorem qN {A0 A1 A2 A3 A4 A5 A6 A7:Prop} (a0:A0) (a1:A1) (a2:A2) (a3:A3) (a4:A4) (a5:A5) (a6:A6) (a7:A7):A0/\A1/\A2/\A3/\A4/\A5/\A6/\A7:=⟨a0,a1,a2,a3,a4,a5,a6,a7⟩
theorem yP {A0 A1 A2 A3 A4 A5 A6 A7 A8:Prop} (a0:A0) (a1:A1) (a2:A2) (a3:A3) (a4:A4) (a5:A5) (a6:A6) (a7:A7) (a8:A8):A0/\A1/\A2/\A3/\A4/\A5/\A6/\A7/\A8:=⟨a0,a1,a2,a3,a4,a5,a6,a7,a8⟩
theorem rF {A0 A1 A2 A3 A4 A5 A6 A7 A8 A9:Prop} (a0:A0) (a1:A1) (a2:A2) (a3:A3) (a4:A4) (a5:A5) (a6:A6) (a7:A7) (a8:A8) (a9:A9):A0/\A1/\A2/\A3/\A4/\A5/\A6/\A7/\A8/\A9:=⟨a0,a1,a2,a3,a4,a5,a6,a7,a8,a9⟩
theorem pE {A0 A1 A2 A3 A4 A5 A6 A7 A8 A9 xG:Prop} (a0:A0) (a1:A1) (a2:A2) (a3:A3) (a4:A4) (a5:A5) (a6:A6) (a7:A7) (a8:A8) (a9:A9) (HO:xG):A0/\A1/\A2/\A3/\A4/\A5/\A6/\A7/\A8/\A9/\xG:=⟨a0,a1,a2,a3,a4,a5,a6,a7,a8,a9,HO⟩
theorem CF {A0 A1 A2 A3 A4 A5 A6 A7 A8 A9 xG AR:Prop} (a0:A0) (a1:A1) (a2:A2) (a3:A3) (a4:A4) (a5:A5) (a6:A6) (a7:A7) (a8:A8) (a9:A9) (HO:xG) (J7:AR):A0/\A1/\A2/\A3/\A4/\A5/\A6/\A7/\A8/\A9/\xG/\AR:=⟨a0,a1,a2,a3,a4,a5,a6,a7,a8,a9,HO,J7⟩
theorem P0 {A0 A1 A2 A3 A4 A5 A6 A7 A8 A9 xG AR B7:Prop} (a0:A0) (a1:A1) (a2:A2) (a3:A3) (a4:A4) (a5:A5) (a6:A6) (a7:A7) (a8:A8) (a9:A9) (HO:xG) (J7:AR) (ML:B7):A0/\A1/\A2/\A3/\A4/\A5/\A6/\A7/\A8/\A9/\xG/\AR/\B7:=⟨a0,a1,a2,a3,a4,a5,a6,a7,a8,a9,HO,J7,ML⟩
theorem F0 {A0 A1 A2 A3 A4 A5 A6 A7 A8 A9 xG AR B7 E2:Prop} (a0:A0) (a1:A1) (a2:A2) (a3:A3) (a4:A4) (a5:A5) (a6:A6) (a7:A7) (a8:A8) (a9:A9) (HO:xG) (J7:AR) (ML:B7) (PO:E2):A0/\A1/\A2/\A3/\A4/\A5/\A6/\A7/\A8/\A9/\xG/\AR/\B7/\E2:=⟨a0,a1,a2,a3,a4,a5,a6,a7,a8,a9,HO,J7,ML,PO⟩
theorem aGT {A0 A1 A2 A3 A4 A5 A6 A7 A8 A9 xG AR B7 E2 HK:Prop} (a0:A0) (a1:A1) (a2:A2) (a3:A3) (a4:A4) (a5:A5) (a6:A6) (a7:A7) (a8:A8) (a9:A9) (HO:xG) (J7:AR) (ML:B7) (PO:E2) (TC:HK):A0/\A1/\A2/\A3/\A4/\A5/\A6/\A7/\A8/\A9/\xG/\AR/\B7/\E2/\HK:=⟨a0,a1,a2,a3,a4,a5,a6,a7,a8,a9,HO,J7,ML,PO,TC⟩
theorem aAe {A0 A1 A2 A3 A4 A5 A6 A7 A8 A9 xG AR B7 E2 HK KU:Prop} (a0:A0) (a1:A1) (a2:A2) (a3:A3) (a4:A4) (a5:A5) (a6:A6) (a7:A7) (a8:A8) (a9:A9) (HO:xG) (J7:AR) (ML:B7) (PO:E2) (TC:HK) (XT:KU):A0/\A1/\A2/\A3/\A4/\A5/\A6/\A7/\A8/\A9/\xG/\AR/\B7/\E2/\HK/\KU:=⟨a0,a1,a2,a3,a4,a5,a6,a7,a8,a9,HO,J7,ML,PO,TC,XT⟩
theorem aI2 {A0 A1 A2 A3 A4 A5 A6 A7 A8 A9 xG AR B7 E2 HK KU PJ:Prop} (a0:A0) (a1:A1) (a2:A2) (a3:A3) (a4:A4) (a5:A5) (a6:A6) (a7:A7) (a8:A8) (a9:A9) (HO:xG) (J7:AR) (ML:B7) (PO:E2) (TC:HK) (XT:KU) (a16:PJ):A0/\A1/\A2/\A3/\A4/\A5/\A6/\A7/\A8/\A9/\xG/\AR/\B7/\E2/\HK/\KU/\PJ:=⟨a0,a1,a2,a3,a4,a5,a6,a7,a8,a9,HO,J7,ML,PO,TC,XT,a16⟩
theorem aI3 {A0 A1 A2 A3 A4 A5 A6 A7 A8 A9 xG AR B7 E2 HK KU PJ U7 U8:Prop} (a0:A0) (a1:A1) (a2:A2) (a3:A3) (a4:A4) (a5:A5) (a6:A6) (a7:A7) (a8:A8) (a9:A9) (HO:xG) (J7:AR) (ML:B7) (PO:E2) (TC:HK) (XT:KU) (a16:PJ) (a17:U7) (a18:U8):A0/\A1/\A2/\A3/\A4/\A5/\A6/\A7/\A8/\A9/\xG/\AR/\B7/\E2/\HK/\KU/\PJ/\U7/\U8:=⟨a0,a1,a2,a3,a4,a5,a6,a7,a8,a9,HO,J7,ML,PO,TC,XT,a16,a17,a18⟩
theorem aGU {A0 A1 A2 A3 A4 A5 A6 A7 A8 A9 xG AR B7 E2 HK KU PJ U7 U8 A19 A20:Prop} (a0:A0) (a1:A1) (a2:A2) (a3:A3) (a4:A4) (a5:A5) (a6:A6) (a7:A7) (a8:A8) (a9:A9) (HO:xG) (J7:AR) (ML:B7) (PO:E2) (TC:HK) (XT:KU) (a16:PJ) (a17:U7) (a18:U8) (a19:A19) (a20:A20):A0/\A1/\A2/\A3/\A4/\A5/\A6/\A7/\A8/\A9/\xG/\AR/\B7/\E2/\HK/\KU/\PJ/\U7/\U8/\A19/\A20:=⟨a0,a1,a2,a3,a4,a5,a6,a7,a8,a9,HO,J7,ML,PO,TC,XT,a16,a17,a18,a19,a20⟩
theorem aWv {A0 A1 A2 A3 A4 A5 A6 A7 A8 A9 xG AR B7 E2 HK KU PJ U7 U8 A19 A20 A21:Prop} (a0:A0) (a1:A1) (a2:A2) (a3:A3) (a4:A4) (a5:A5) (a6:A6) (a7:A7) (a8:A8) (a9:A9) (HO:xG) (J7:AR) (ML:B7) (PO:E2) (TC:HK) (XT:KU) (a16:PJ) (a17:U7) (a18:U8) (a19:A19) (a20:A20) (a21:A21):A0/\A1/\A2/\A3/\A4/\A5/\A6/\A7/\A8/\A9/\xG/\AR/\B7/\E2/\HK/\KU/\PJ/\U7/\U8/\A19/\A20/\A21:=⟨a0,a1,a2,a3,a4,a5,a6,a7,a8,a9,HO,J7,ML,PO,TC,XT,a16,a17,a18,a19,a20,a21⟩
theorem aI4 {A0 A1 A2 A3 A4 A5 A6 A7 A8 A9 xG AR B7 E2 HK KU PJ U7 U8 A19 A20 A21 A22:Prop} (a0:A0) (a1:A1) (a2:A2) (a3:A3) (a4:A4) (a5:A5) (a6:A6) (a7:A7) (a8:A8) (a9:A9) (HO:xG) (J7:AR) (ML:B7) (PO:E2) (TC:HK) (XT:KU) (a16:PJ) (a17:U7) (a18:U8) (a19:A19) (a20:A20) (a21:A21) (a22:A22):A0/\A1/\A2/\A3/\A4/\A5/\A6/\A7/\A8/\A9/\xG/\AR/\B7/\E2/\HK/\KU/\PJ/\U7/\U8/\A19/\A20/\A21/\A22:=⟨a0,a1,a2,a3,a4,a5,a6,a7,a8,a9,HO,J7,ML,PO,TC,XT,a16,a17,a18,a19,a20,a21,a22⟩
theorem aWw {A0 A1 A2 A3 A4 A5 A6 A7 A8 A9 xG AR B7 E2 HK KU PJ U7 U8 A19 A20 A21 A22 A23:Prop} (a0:A0) (a1:A1) (a2:A2) (a3:A3) (a4:A4) (a5:A5) (a6:A6) (a7:A7) (a8:A8) (a9:A9) (HO:xG) (J7:AR) (ML:B7) (PO:E2) (TC:HK) (XT:KU) (a16:PJ) (a17:U7) (a18:U8) (a19:A19) (a20:A20) (a21:A21) (a22:A22) (a23:A23):A0/\A1/\A2/\A3/\A4/\A5/\A6/\A7/\A8/\A9/\xG/\AR/\B7/\E2/\HK/\KU/\PJ/\U7/\U8/\A19/\A20/\A21/\A22/\A23:=⟨a0,a1,a2,a3,a4,a5,a6,a7,a8,a9,HO,J7,ML,PO,TC,XT,a16,a17,a18,a19,a20,a21,a22,a23⟩
def iD (n:Int):List D:=[i64 n]
def pD (p:Int×Int):List D:=[i64 p.1,i64 p.2]
theorem dL {l:List Int} {i:Nat} (h:i<l.length):(l.map iD)[i]?=some [.val (.int .i64 l[i])]:=by
 rw[cR,cP h];rfl
def dG (n a:Int):Prop:=0<=a/\a<n
instance (n a:Int):Decidable (dG n a):=by unfold dG;exact inferInstance
structure cQ where
 k:Int
 m:Bool
 r:Int
 e:Int
 ar:List Int
def cE (t:cQ):List D:=[i64 t.k,.val (.bool t.m),i64 t.r,i64 t.e,.seq 1 (t.ar.map iD)]
def cJ (ts:List cQ) (a:Int):cQ:=ts.getD a.toNat ⟨0,false,0,0,[]⟩
def vY (ts:List cQ):Prop:=∀(i:Nat) (h:i<ts.length),(ts[i].k=3->0<=ts[i].e/\ts[i].e<i)/\∀x∈ts[i].ar,0<=x/\x<i
theorem vA {ts:List cQ} {a:Int} (h:dG ts.length a):∃h',cJ ts a=ts[a.toNat]'h':=by
 unfold dG at h
 refine⟨by omega,?_⟩
 unfold cJ
 rw[l6,cP (by omega)];rfl
theorem v7 {ts:List cQ} (hw:vY ts) {a:Int} (h:dG ts.length a):((cJ ts a).k=3->0<=(cJ ts a).e/\(cJ ts a).e<a)/\∀x∈(cJ ts a).ar,0<=x/\x<a:=by
 obtain⟨h',he⟩:=vA h
 rw[he]
 have:=hw a.toNat h'
 unfold dG at h
 refine⟨fun hk=>?_,fun x hx=>?_⟩
 ·have:=this.1 hk;omega
 ·have:=this.2 x hx;omega
theorem kC {ts:List cQ} {a:Int} (h:dG ts.length a):(ts.map cE)[a.toNat]?=some (cE (cJ ts a)):=by
 obtain⟨h',he⟩:=vA h
 rw[he,cR,cP h'];rfl
end Go.Proofs.YtelbfbioomcmeaaGreatDoor

