/- Lemmas and contracts of functions, several texts in one. -/
import Derived.Deep.Slices
import Derived.OpenShut
import Derived.Test.YtfiipaodjpiooaaGreatDoorQ09
set_option maxRecDepth 100000
set_option maxHeartbeats 4000000
set_option linter.all false
namespace Go.Proofs.YtfiipaodjpiooaaGreatDoor
open Go.RowKit
theorem KI {P:Program} {f:FuncId} {ds:List D} {vs:List Value} {w:World} (h:bE P f ds .none fun d _=>d=.val (.bool true)) (hv:aW w aC.none.others ds vs) (hG:DW w aC.none:=by first|exact a1n _ _|assumption):
  Calls P f vs.toArray w fun e w'=>e=.returned (.bool true)/\Below w.heap.size w w':=
 (h.2 w vs hv (fun b x hb=>by cases hb) hG).mono fun e w' ⟨v,d,H',he,hd,_,lO,hk⟩=>by
  subst hk
  rw[dZ hd] at he
  exact⟨he,lO.os,lO.tape,lO.output,lO.size,fun k hk=>(lO.fS k hk rfl).1⟩
end Go.Proofs.YtfiipaodjpiooaaGreatDoor
namespace Go.Proofs.YtfiipaodjpiooaaGreatDoor
open Go.RowKit Go.WideShapes
inductive DT where
 |int (k:IntKind)
 |bool
 |string
 |slice (sz uW:Nat) (e:DT)
 |struct (fs:List DT)
 |array (n:Nat) (e:DT)
inductive X where
 |int (k:IntKind) (n:Int)
 |bool (b:Bool)
 |str (s:ByteArray)
 |list (sz:Nat) (xs:List X)
 |agg (xs:List X)
instance:Inhabited X:=⟨.bool false⟩
mutual
def X.cs:X->List D
 | .int k n=>[.val (.int k n)]
 | .bool b=>[.val (.bool b)]
 | .str s=>[.val (.string s)]
 | .list sz xs=>[.seq sz (X.css xs)]
 | .agg xs=>X.XB xs
def X.css:List X->List (List D)
 |[]=>[]
 |x::xs=>X.cs x::X.css xs
def X.XB:List X->List D
 |[]=>[]
 |x::xs=>X.cs x++X.XB xs
end
theorem X.XC:∀(xs:List X),X.css xs=xs.map X.cs
 |[]=>by simp [X.css]
 |x::xs=>by simp [X.css,X.XC xs]
def X.d:X->D
 | .int k n=>.val (.int k n)
 | .bool b=>.val (.bool b)
 | .str s=>.val (.string s)
 | .list sz xs=>.seq sz (X.css xs)
 | .agg xs=>.agg (X.XB xs)
mutual
def DT.ok:DT->X->Prop
 | .int k,x=>∃n,x=.int k n/\(Lit.int k n).wf=true
 | .bool,x=>∃b,x=.bool b
 | .string,x=>∃s,x=.str s/\s.size<=140737488351232
 | .slice sz uW e,x=>∃xs,x=.list sz xs/\xs.length * uW<=140737488351232/\∀y∈xs,DT.ok e y
 | .struct fs,x=>∃xs,x=.agg xs/\DT.oks fs xs
 | .array n e,x=>∃xs,x=.agg xs/\xs.length=n/\∀y∈xs,DT.ok e y
def DT.oks:List DT->List X->Prop
 |[],xs=>xs=[]
 |f::fs,xs=>∃y ys,xs=y::ys/\DT.ok f y/\DT.oks fs ys
end
def QO (P:Program):Nat->List Field->Nat->Bool
 |o,[],n=>o==n
 |o,f::fs,n=>f.offset==o&&QO P (o+P.cellsOf f.type) fs n
mutual
def DN (P:Program) (t:TypeId):DT->Bool
 | .int k=>(match P.underlying t with
  |some (.int k')=>decide (k'=k)
  |_=>false)
 | .bool=>(match P.underlying t with
  |some .bool=>true
  |_=>false)
 | .string=>(match P.underlying t with
  |some .string=>true
  |_=>false)
 | .slice sz uW e=>(match P.underlying t with
  |some (.slice te)=>P.cellsOf te==sz&&decide (0<sz)&&P.bytesOf te==uW&&DN P te e
  |_=>false)
 | .struct ds=>(match P.underlying t with
  |some (.struct fs)=>QO P 0 fs.toList (P.cellsOf t)&&UX P (fs.toList.map (·.type)) ds
  |_=>false)
 | .array n e=>(match P.underlying t with
  |some (.array m te)=>m==n&&P.cellsOf t==n * P.cellsOf te&&DN P te e
  |_=>false)
def UX (P:Program):List TypeId->List DT->Bool
 |[],[]=>true
 |t::ts,d::ds=>DN P t d&&UX P ts ds
 |_,_=>false
end
section
variable {H:Type} {enc:TypeId×Value->H} {P:Program} {w:World} {base:Nat} {aBR:Nat->Bool} {aHE:Bool}
theorem trod_int {t:TypeId} {k:IntKind} {kT:Nat} {cs:List Value} {x:DataW H×List MemPlace} (ht:P.underlying t=some (.int k)) (h:DataW.trod enc P w base aBR aHE kT t cs=some x):∃n,cs=[.int k n]/\(Lit.int k n).wf=true:=by
 cases kT with
 |zero=>simp [DataW.trod] at h
 |succ m=>
  unfold DataW.trod at h
  rw[ht] at h
  split at h <;> simp_all
theorem aFa {t:TypeId} {kT:Nat} {cs:List Value} {x:DataW H×List MemPlace} (ht:P.underlying t=some .bool) (h:DataW.trod enc P w base aBR aHE kT t cs=some x):∃b,cs=[.bool b]:=by
 cases kT with
 |zero=>simp [DataW.trod] at h
 |succ m=>
  unfold DataW.trod at h
  rw[ht] at h
  split at h <;> simp_all
theorem aIo {t:TypeId} {kT:Nat} {cs:List Value} {x:DataW H×List MemPlace} (ht:P.underlying t=some .string) (h:DataW.trod enc P w base aBR aHE kT t cs=some x):∃s,cs=[.string s]/\x.1=.lit (.string s.data.toList):=by
 cases kT with
 |zero=>simp [DataW.trod] at h
 |succ m=>
  unfold DataW.trod at h
  rw[ht] at h
  split at h <;> simp_all
  rw[<-h.2]
theorem yF {e:TypeId}:∀{l:List (DataW H)},(DataW.weightsAll P e l).all (·<=reachBytes)=true->∀d∈l,(d.weights P e).all (·<=reachBytes)=true
 |[],_,d,hd=>by cases hd
 |d0::l,h,d,hd=>by
  simp only[DataW.weightsAll,P4,eK] at h
  rcases dJ.1 hd with rfl|hd
  ·exact h.1
  ·exact yF h.2 d hd
end
theorem I6 {w:World} {S:Nat->Prop} {cs ds:List D} {vs:List Value} {n:Nat} (h1:aU w S cs (vs.take n)) (h2:aU w S ds (vs.drop n)):aU w S (cs++ds) vs:=by
 rw[<-uQ n vs]
 exact fB h1 h2
section
variable {H:Type} {enc:TypeId×Value->H} {P:Program} {w:World} {base:Nat} {aBR:Nat->Bool} {aHE:Bool} {S:Nat->Prop} (hS:∀b,S b)
theorem aAM {α:Type} {n:Nat} {p:Nat->α->Prop} (h:∀i,i<n->∃x,p i x):∃l:List α,l.length=n/\∀i x,l[i]?=some x->p i x:=by
 induction n with
 |zero=>exact⟨[],rfl,fun i x hx=>by cases hx⟩
 |succ n ih=>
  obtain⟨l,hl,hp⟩:=ih fun i hi=>h i (by omega)
  obtain⟨x,hx⟩:=h n (by omega)
  refine⟨l++[x],by simp [hl],fun i y hy=>?_⟩
  by_cases hi:i<l.length
  ·rw[r5 hi] at hy
   exact hp i y hy
  ·rw[wA (by omega)] at hy
   have EM:i - l.length=0:=by
    have:=(mE.1 hy).1
    simp at this
    omega
   rw[EM] at hy
   simp only[qO,oU] at hy
   subst hy
   rw[show i=n by omega]
   exact hx
def Good (P:Program) (w:World) (S:Nat->Prop) (dt:DT) (cs:List Value):Prop:=∃x,dt.ok x/\aU w S x.cs cs
theorem QE {e:DT} {c:Nat}:∀{n:Nat} {cs:List Value},cs.length=n * c->(∀i,i<n->Good P w S e ((cs.drop (i * c)).take c))->∃xs:List X,xs.length=n/\(∀y∈xs,e.ok y)/\aU w S (X.XB xs) cs
 |0,cs,hl,h=>⟨[],rfl,fun y hy=>(by cases hy),by
   have:cs=[]:=iX (by omega)
   subst this
   simp only[X.XB,aU]⟩
 |n+1,cs,hl,h=>by
  obtain⟨x,h1,h2⟩:=h 0 (by omega)
  rw[C5,jB] at h2
  have xZ:(cs.drop c).length=n * c:=by rw[nD,hl,oY];omega
  obtain⟨xs,h3,h4,h5⟩:=QE (cs:=cs.drop c) xZ fun i hi=>by
   have:=h (i+1) (by omega)
   rw[zU,show c+i * c=(i+1) * c by rw[oY];omega]
   exact this
  refine⟨x::xs,by simp [h3],?_,?_⟩
  ·intro y hy
   rcases dJ.1 hy with rfl|hy
   ·exact h1
   ·exact h4 y hy
  ·simp only[X.XB]
   exact I6 h2 h5
theorem M6:∀{fs:List Field} {ds:List DT} {o n:Nat} {cs:List Value},QO P o fs n=true->cs.length=n->fs.length=ds.length->(∀(i:Nat) (f:Field) d,fs[i]?=some f->ds[i]?=some d->Good P w S d ((cs.drop f.offset).take (P.cellsOf f.type)))->∃xs:List X,DT.oks ds xs/\aU w S (X.XB xs) (cs.drop o)
 |[],ds,o,n,cs,hc,hl,fJ,h=>by
  cases ds with
  |cons _ _=>cases fJ
  |nil=>
   simp only[QO,C8] at hc
   refine⟨[],by simp only[DT.oks],?_⟩
   rw[eT (by omega)]
   simp only[X.XB,aU]
 |f::fs,ds,o,n,cs,hc,hl,fJ,h=>by
  cases ds with
  |nil=>cases fJ
  |cons d ds=>
   simp only[QO,eK,C8] at hc
   obtain⟨ho,hc⟩:=hc
   obtain⟨x,h1,h2⟩:=h 0 f d rfl rfl
   obtain⟨xs,h3,h4⟩:=M6 (cs:=cs) hc hl (by simpa using fJ) fun i f' d' hf hd=>h (i+1) f' d' hf hd
   refine⟨x::xs,by simp only[DT.oks];exact⟨x,xs,rfl,h1,h3⟩,?_⟩
   simp only[X.XB]
   rw[ho] at h2
   rw[<-zU] at h4
   exact I6 h2 h4
theorem UY:∀{ts:List TypeId} {ds:List DT},UX P ts ds=true->ts.length=ds.length/\∀(i:Nat) t d,ts[i]?=some t->ds[i]?=some d->DN P t d=true/\d∈ds
 |[],[],_=>⟨rfl,fun i t d h=>by cases h⟩
 |t::ts,d::ds,h=>by
  simp only[UX,eK] at h
  obtain⟨h1,h2⟩:=UY h.2
  refine⟨by simp [h1],fun i t' d' ht hd=>?_⟩
  cases i with
  |zero=>
   simp only[qO,oU] at ht hd
   subst ht hd
   exact⟨h.1,AK⟩
  |succ i=>
   obtain⟨h3,h4⟩:=h2 i t' d' (by simpa using ht) (by simpa using hd)
   exact⟨h3,gY _ h4⟩
 |[],_::_,h=>by simp [UX] at h
 |_::_,[],h=>by simp [UX] at h
theorem iG:∀{ts:List TypeId} {ds:List (DataW H)},(DataW.weightsEach P ts ds).all (·<=reachBytes)=true->∀(i:Nat) t d,ts[i]?=some t->ds[i]?=some d->(d.weights P t).all (·<=reachBytes)=true
 |[],_,_,i,t,d,h,_=>by cases h
 |_::_,[],_,i,t,d,_,h=>by cases h
 |t::ts,d::ds,h,i,t',d',ht,hd=>by
  simp only[DataW.weightsEach,P4,eK] at h
  cases i with
  |zero=>
   simp only[qO,oU] at ht hd
   subst ht hd
   exact h.1
  |succ i=>exact iG h.2 i t' d' (by simpa using ht) (by simpa using hd)
include hS in
theorem aFb:∀(kT:Nat) (dt:DT) (t:TypeId) (cs:List Value) (x:DataW H×List MemPlace),DN P t dt=true->DataW.trod enc P w base aBR aHE kT t cs=some x->(x.1.weights P t).all (·<=reachBytes)=true->Good P w S dt cs:=by
 intro kT
 induction kT with
 |zero=>intro dt t cs x _ h;simp [DataW.trod] at h
 |succ kT ih=>
  intro dt t cs x wH h hw
  cases dt with
  |int k=>
   unfold DN at wH
   split at wH
   ·rename_i k' ht
    have:=CV wH
    subst this
    obtain⟨n,rfl,hn⟩:=trod_int ht h
    refine⟨.int k' n,by simp only[DT.ok];exact⟨n,rfl,hn⟩,?_⟩
    simp only[X.cs,aU,D.is]
    exact⟨_,_,rfl,rfl,rfl,rfl⟩
   ·cases wH
  |bool=>
   unfold DN at wH
   split at wH
   ·rename_i ht
    obtain⟨b,rfl⟩:=aFa ht h
    refine⟨.bool b,by simp only[DT.ok];exact⟨b,rfl⟩,?_⟩
    simp only[X.cs,aU,D.is]
    exact⟨_,_,rfl,rfl,rfl,rfl⟩
   ·cases wH
  |string=>
   unfold DN at wH
   split at wH
   ·rename_i ht
    obtain⟨s,rfl,hx⟩:=aIo ht h
    rw[hx] at hw
    simp only[DataW.weights,pX,tI,lR,fV] at hw
    have hw2:s.size<=reachBytes:=by show s.data.size<=reachBytes;rw[<-nB];exact hw
    refine⟨.str s,by simp only[DT.ok];exact⟨s,rfl,hw2⟩,?_⟩
    simp only[X.cs,aU,D.is]
    exact⟨_,_,rfl,rfl,rfl,rfl⟩
   ·cases wH
  |slice sz uW e=>
   unfold DN at wH
   split at wH
   ·rename_i te ht
    simp only[eK,C8,fV] at wH
    obtain⟨⟨⟨lZ,aK7⟩,hby⟩,hde⟩:=wH
    rcases DataW.trod_slice ht h with⟨rfl,rfl⟩|⟨a,len,cap,a1j,eJ,n,hn,rfl,rfl,hb,hl,hm,fJ,DB,hsp,hns⟩
    ·refine⟨.list sz [],by simp only[DT.ok];exact⟨[],rfl,by simp,fun y hy=>by cases hy⟩,?_⟩
     simp only[X.cs,X.css,aU,D.is]
     exact⟨_,_,rfl,rfl,⟨none,0,rfl,dI _,.inl trivial⟩,rfl⟩
    ·have hn':n=kT:=by omega
     subst hn'
     simp only[DataW.weights,ht,pX,P4,eK,fV,bC] at hw
     obtain⟨hw1,hw2,_⟩:=hw
     rw[hby,fJ] at hw1
     have aAc:∀i,i<len->∃c,w.cells? base (a.add (i * sz)) sz=some c/\Good P w S e c:=fun i hi=>by
      have h1:=DB i hi
      rw[lZ,bX (by omega)] at h1
      obtain⟨c,h2,h3⟩:=Option.bind_eq_some_iff.1 h1
      exact⟨c,h2,ih e te c _ hde h3 (yF hw2 _ (eW.2 ⟨_,bU (by omega),rfl⟩))⟩
     obtain⟨xs,hxl,RK⟩:=aAM (n:=len) (p:=fun i x=>DT.ok e x/\∃c,w.cells? base (a.add (i * sz)) sz=some c/\aU w S x.cs c) fun i hi=>by
      obtain⟨c,h1,x,h2,h3⟩:=aAc i hi
      exact⟨x,h2,c,h1,h3⟩
     refine⟨.list sz xs,?_,?_⟩
     ·simp only[DT.ok]
      refine⟨xs,rfl,?_,fun y hy=>?_⟩
      ·have:xs.length * uW<=(len+eJ.length) * uW:=lQ _ (by omega)
       exact qQ this hw1
      ·obtain⟨i,hi⟩:=AJ hy
       exact(RK i y hi).1
     ·have CD:X.css xs=[]\/∃b o,some a=some ⟨b,o,none⟩/\S b/\b<w.heap.size/\eB w S b sz o (X.css xs):=by
       rcases KS len with h0|h0
       ·left
        have:xs=[]:=iX (by omega)
        rw[this];rfl
       ·right
        obtain⟨c0,AL,_⟩:=aAc 0 h0
        obtain⟨_,mA,lH⟩:=World.cells?_some AL
        have EI:=lH 0 aK7
        rw[bX (by omega),C5] at EI
        obtain⟨b,o,sp⟩:=a
        have aZG:sp=none:=by simpa [Addr.add] using World.cell?_spot EI
        subst aZG
        refine⟨b,o,rfl,hS b,by simpa [Addr.add] using aJg EI,?_⟩
        refine gO fun j el hj=>?_
        rw[X.XC,dN] at hj
        obtain⟨x,hx,rfl⟩:=PK.1 hj
        obtain⟨_,c,hc,fF⟩:=RK j x hx
        obtain⟨_,X5,OU⟩:=World.cells?_some hc
        refine⟨by rw[<-fC fF,X5],fD fF fun q v hq=>?_⟩
        have aZA:q<sz:=by rw[<-X5];exact(mE.1 hq).1
        have:=OU q aZA
        rw[hq] at this
        rw[<-this,Addr.add_lit,Addr.add_lit]
      simp only[X.cs,aU,D.is]
      have hlx:(X.css xs).length=len:=by rw[X.XC,bC,hxl]
      refine⟨_,_,rfl,rfl,⟨some a,cap,by rw[hlx],by rw[hlx];exact hl,CD⟩,rfl⟩
   ·cases wH
  |struct ds=>
   unfold DN at wH
   split at wH
   ·rename_i fs ht
    simp only[eK] at wH
    obtain⟨hc,ha⟩:=wH
    obtain⟨xs,n,hn,rfl,fJ,hxl,hx⟩:=DataW.trod_struct ht h
    have hn':n=kT:=by omega
    subst hn'
    obtain⟨ha1,ha2⟩:=UY ha
    simp only[DataW.weights,ht] at hw
    obtain⟨ys,h1,h2⟩:=M6 (P:=P) (w:=w) (S:=S) (cs:=cs) hc fJ (by simpa using ha1) fun i f d hf hd=>by
     have hf':fs[i]?=some f:=by simpa using hf
     have hi:i<xs.length:=by
      have:=(tL.1 hf').1
      omega
     have h3:=hx i f hf'
     rw[bX hi] at h3
     have ht':(fs.toList.map (·.type))[i]?=some f.type:=by rw[dN,hf];rfl
     exact ih d f.type _ _ (ha2 i f.type d ht' hd).1 h3 (iG hw i f.type _ ht' (by rw[dN,bX hi] <;> rfl))
    exact⟨.agg ys,by simp only[DT.ok];exact⟨ys,rfl,h1⟩,by simpa only[X.cs,jB] using h2⟩
   ·cases wH
  |array m e=>
   unfold DN at wH
   split at wH
   ·rename_i m' te ht
    simp only[eK,C8] at wH
    obtain⟨⟨rfl,hc⟩,hde⟩:=wH
    obtain⟨xs,n,hn,rfl,fJ,hxl,hx⟩:=DataW.trod_array ht h
    have hn':n=kT:=by omega
    subst hn'
    simp only[DataW.weights,ht] at hw
    obtain⟨ys,h1,h2,h3⟩:=QE (P:=P) (w:=w) (S:=S) (e:=e) (c:=P.cellsOf te) (n:=m') (cs:=cs) (by rw[fJ,hc]) fun i hi=>by
     have h4:=hx i hi
     rw[bX (by omega)] at h4
     exact ih e te _ _ hde h4 (yF hw _ (eW.2 ⟨_,bU (by omega),rfl⟩))
    exact⟨.agg ys,by simp only[DT.ok];exact⟨ys,rfl,h1,h2⟩,by simpa only[X.cs] using h3⟩
   ·cases wH
end
theorem E3 {w:World} {S:Nat->Prop} {d:D} {v:Value} {cs:List D} (hc:cs=[d]) (h:aU w S cs v.cells.toList) (hv:v.cells= #[v]):D.is w S d v:=by
 subst hc
 rw[hv] at h
 simp only[aU] at h
 obtain⟨u,us,h1,_,h2,h3⟩:=h
 subst h3
 simp only[F7] at h1
 rw[h1.1]
 exact h2
theorem IB {H:Type} {enc:TypeId×Value->H} {P:Program} {w:World} {r:Reach} {base:Nat} {t:TypeId} {v:Value} {d:DataW H} {p:List MemPlace} (dt:DT) (wH:DN P t dt=true)
  (fI:Value.okWide P w r base t v) (h:DataW.Trod enc P w 0 (fun _=>true) true t v d p) (hw:(d.weights P t).all (·<=reachBytes)=true):∃x:X,dt.ok x/\D.is w aC.none.others x.d v:=by
 obtain⟨kT,h⟩:=h
 obtain⟨x,h1,h2⟩:=aFb (S:=aC.none.others) (fun _=>rfl) kT dt t v.cells.toList (d,p) wH h hw
 refine⟨x,h1,?_⟩
 cases dt with
 |int k=>
  unfold DN at wH
  split at wH
  ·rename_i ht
   obtain⟨n,rfl⟩:=okWide_int ht fI
   simp only[DT.ok] at h1
   obtain⟨m,rfl,_⟩:=h1
   exact E3 rfl h2 rfl
  ·cases wH
 |bool=>
  unfold DN at wH
  split at wH
  ·rename_i ht
   obtain⟨n,rfl⟩:=okWide_bool ht fI
   simp only[DT.ok] at h1
   obtain⟨m,rfl⟩:=h1
   exact E3 rfl h2 rfl
  ·cases wH
 |string=>
  unfold DN at wH
  split at wH
  ·rename_i ht
   obtain⟨n,rfl⟩:=okWide_string ht fI
   simp only[DT.ok] at h1
   obtain⟨m,rfl,_⟩:=h1
   exact E3 rfl h2 rfl
  ·cases wH
 |slice sz uW e=>
  unfold DN at wH
  split at wH
  ·rename_i ht
   obtain⟨a,len,cap,rfl⟩:=okWide_slice ht fI
   simp only[DT.ok] at h1
   obtain⟨m,rfl,_⟩:=h1
   exact E3 rfl h2 rfl
  ·cases wH
 |struct ds=>
  unfold DN at wH
  split at wH
  ·rename_i fs ht
   simp only[Value.okWide,ht] at fI
   obtain⟨cs,rfl,_⟩:=fI
   simp only[DT.ok] at h1
   obtain⟨m,rfl,_⟩:=h1
   simp only[X.d,D.is]
   exact⟨cs.toList,by simp,by simpa only[X.cs,Value.cells] using h2⟩
  ·cases wH
 |array n e=>
  unfold DN at wH
  split at wH
  ·rename_i m te ht
   simp only[Value.okWide,ht] at fI
   obtain⟨cs,rfl,_⟩:=fI
   simp only[DT.ok] at h1
   obtain⟨m,rfl,_⟩:=h1
   simp only[X.d,D.is]
   exact⟨cs.toList,by simp,by simpa only[X.cs,Value.cells] using h2⟩
  ·cases wH
end Go.Proofs.YtfiipaodjpiooaaGreatDoor
namespace Go.Proofs.YtfiipaodjpiooaaGreatDoor
open Go.RowKit
theorem cF {P:Program} {f:FuncId} {args:List D} {H:aC} {x:D} (h:∀gI,H.le gI->bE P f args gI fun d H'=>d=x/\gI=H'):eF P f args H fun d A=>A=aC.none/\d=x:=
 E2 h fun _ _ _ hh=>⟨.none,u7 _,hh.2.symm,rfl,hh.1⟩
theorem aC0 {x:X} (h:DT.ok (.int .i64) x):∃n:Int,x=.int .i64 n/\ -9223372036854775808<=n/\n<=9223372036854775807:=by
 simp only[DT.ok] at h
 obtain⟨n,rfl,hn⟩:=h
 simp [Lit.wf,IntKind.min,IntKind.max,IntKind.signed,IntKind.bits] at hn
 exact⟨n,rfl,by omega⟩
theorem aMo {x:X} (h:DT.ok (.int .u8) x):∃c:UInt8,x=.int .u8 (c.toNat:Int):=by
 simp only[DT.ok] at h
 obtain⟨n,rfl,hn⟩:=h
 simp [Lit.wf,IntKind.min,IntKind.max,IntKind.signed,IntKind.bits] at hn
 refine⟨UInt8.ofNat n.toNat,?_⟩
 have:(UInt8.ofNat n.toNat).toNat=n.toNat:=by rw[UInt8.toNat_ofNat'];omega
 rw[this]
 congr 1
 omega
theorem aLT {x:X} (h:DT.ok .bool x):∃b:Bool,x=.bool b:=by simpa only[DT.ok] using h
def xI (n:Int):X:=.int .i64 n
def fU (n:Int):Prop:= -9223372036854775808<=n/\n<=9223372036854775807
end Go.Proofs.YtfiipaodjpiooaaGreatDoor
namespace Go.Proofs.YtfiipaodjpiooaaGreatDoor
open Go.Maps (Keyed)
open Go.RowKit
theorem pZ {cx:Cx} {c:Code} {Q:Exit->St->Prop} {s:St} (I:Nat->St->Prop) (n:Nat) (h0:I n s)
  (round:∀k s,I k s->W cx c (gK (fun s'=>∃k',LtN k' k/\I k' s') Q) s):W cx (.loop c) Q s:=by
 have mu:∀s:St,(∃k,I k s)->I (Classical.epsilon fun k=>I k s/\∀j,I j s->k<=j) s/\∀j,I j s->(Classical.epsilon fun k=>I k s/\∀j,I j s->k<=j)<=j:=fun s h=>
  ZW (p:=fun k=>I k s/\∀j,I j s->k<=j) (aHd (fun k=>I k s) h)
 refine aFx (fun s=>∃k,I k s) (fun s=>Classical.epsilon fun k=>I k s/\∀j,I j s->k<=j) s.H (aG _) ⟨n,h0⟩ ?_
 rintro s1 hex
 obtain⟨h1,h2⟩:=mu s1 hex
 refine vP (round _ s1 h1) fun e s' q=>?_
 cases e with
 |normal=>
  obtain⟨k',kL,hI⟩:=q
  refine⟨s'.H,aG _,⟨k',hI⟩,?_⟩
  exact Nat.lt_of_le_of_lt ((mu s' ⟨k',hI⟩).2 k' hI) kL
 |_=>exact q
def Gk (H0:aC) (e:TypeId) (sz:Nat) (els:List (List D)) (d:D) (H:aC) (ob:Option Nat):Prop:=
 (ob=none/\d=.val (.slice none 0 0)/\els=[])\/∃c o k iU,ob=some c/\d=.os c o sz k els.length/\H0 c=none/\H c=some (.row e o sz iU)/\iU.drop k=els/\k<=iU.length
theorem Gk.of {H0:aC} {e:TypeId} {sz:Nat} {els:List (List D)} {d:D} {H:aC} {ob:Option Nat} (h:Gl H0 e sz els d H ob):Gk H0 e sz els d H ob:=by
 rcases h with h|⟨c,o,h1,h2,h3,h4⟩
 ·exact .inl h
 ·exact .inr ⟨c,o,0,els,h1,h2,h3,h4,rfl,oD _⟩
theorem Gk.fS {H0:aC} {e:TypeId} {sz:Nat} {els:List (List D)} {d:D} {H H':aC} {ob:Option Nat} (h:Gk H0 e sz els d H ob) (hk:∀c,ob=some c->H' c=H c):Gk H0 e sz els d H' ob:=by
 rcases h with h|⟨c,o,k,iU,h1,h2,h3,h4,h5,h6⟩
 ·exact .inl h
 ·exact .inr ⟨c,o,k,iU,h1,h2,h3,(hk c h1).trans h4,h5,h6⟩
theorem Gk.cells {H0:aC} {e:TypeId} {sz:Nat} {els:List (List D)} {d:D} {H:aC} {ob:Option Nat} (h:Gk H0 e sz els d H ob):D.cells d=some [d]:=by
 rcases h with⟨_,rfl,_⟩|⟨c,o,_,_,_,rfl,_⟩ <;> rfl
theorem Gk.cons {H0:aC} {e:TypeId} {sz:Nat} {x:List D} {els:List (List D)} {d:D} {H:aC} {ob:Option Nat} (h:Gk H0 e sz (x::els) d H ob):∃c o k iU,ob=some c/\d=.os c o sz k (els.length+1)/\H0 c=none/\H c=some (.row e o sz iU)/\iU.drop k=x::els/\k<=iU.length/\iU[k]?=some x/\iU.drop (k+1)=els/\k+1<=iU.length:=by
 rcases h with⟨_,_,h⟩|⟨c,o,k,iU,h1,h2,h3,h4,h5,h6⟩
 ·cases h
 ·have kL:k<iU.length:=by
   have:=cS List.length h5
   rw[nD,eO] at this;omega
  rw[eH kL] at h5
  injection h5 with h5 h7
  exact⟨c,o,k,iU,h1,by simpa using h2,h3,h4,by rw[eH kL,h5,h7],h6,by rw[bX kL,h5],h7,kL⟩
theorem UU {P:Program} {H0 H:aC} {t xt e:TypeId} {td xd:Ti} {sz uW:Nat} {zs:List Value} {ed:TD} {els new:List (List D)} {x y:D} {K:D->aC->Prop} {ob:Option Nat}
  (h1:bQ P t=some td) (VF:td.d=.slice e) (h2:bQ P xt=some xd) (h2':xd.d.kX=true) (h3:bQ P e=some ⟨ed,sz,uW,some zs⟩) (hzs:zs.length=sz) (hby:uW≠0)
  (aS:H0.le H) (hs:Gk H0 e sz els x H ob) (hy:mK H sz y (·=new)) (hb:(els.length+new.length) * uW<=140737488355328)
  (hk:∀d H' ob',Gl H0 e sz (els++new) d H' ob'->H0.le H'->(∀b z,H b=some z->ob≠some b->H' b=some z/\ob'≠some b)->K d H'):WX P H t xt x y K:=by
 rcases hs with hs|⟨c,o,k,iU,rfl,rfl,AL,hc,hd,CA⟩
 ·exact dD h1 VF h2 h2' h3 hzs hby aS (.inl hs) hy hb hk
 ·obtain⟨d0,i0,j0,k0⟩:=td
  simp only at VF
  subst VF
  unfold Go.Proofs.YtfiipaodjpiooaaGreatDoor.WX
  rw[h1,h2]
  simp only
  refine⟨h2',?_⟩
  rw[h3]
  simp only
  refine⟨hzs,hby,aAx hy ?_⟩
  refine⟨trivial,hb,?_⟩
  rw[hc]
  simp only
  have fJ:=cS List.length hd
  rw[nD] at fJ
  refine⟨trivial,trivial,trivial,by omega,fun b' o' B7=>?_⟩
  have h0:H0 b'=none:=by
   cases hx:H0 b' with
   |none=>rfl
   |some x=>
    have h5:=aS _ _ hx
    have fM:b'≠c:=fun e=>by rw[e,AL] at hx;cases hx
    rw[bS fM,h5] at B7;cases B7
  refine hk _ _ (some b') (.inr ⟨b',o',rfl,by rw[bN],h0,?_⟩) (o8 (aC.aCP aS AL) B7) fun b z hz fM=>?_
  ·rw[aO,hd,nC]
  ·have hbc:b≠c:=fun e=>fM (by rw[e])
   have M9:b≠b':=fun e=>by rw[<-e,bS hbc,hz] at B7;cases B7
   exact⟨by rw[aN M9,bS hbc];exact hz,fun e=>M9 (by injection e with e;exact e.symm)⟩
structure kP (m:List (Value×D)) (f:Int->Option D):Prop where
 keys:∀p∈m,∃x:Int,(-9223372036854775808<=x/\x<=9223372036854775807)/\p.1=.int .i64 x
 get:∀x:Int,mX m (.int .i64 x)=f x
theorem kP.nil:kP [] fun _=>Option.none:=⟨(fun p hp=>by cases hp),(fun x=>rfl)⟩
theorem J0:∀{m:List (Value×D)} {x:Value} {d:D} {p:Value×D},p∈iM m x d->p=(x,d)\/p∈m
 |[],x,d,p,h=>by simp only[iM,cR] at h;exact .inl h
 |q::m,x,d,p,h=>by
  simp only[iM] at h
  split at h
  ·rcases dJ.1 h with h|h
   ·exact .inl h
   ·exact .inr (gY _ h)
  ·rcases dJ.1 h with h|h
   ·exact .inr (h▸AK)
   ·rcases J0 h with h|h
    ·exact .inl h
    ·exact .inr (gY _ h)
theorem kP.set {m:List (Value×D)} {f:Int->Option D} (h:kP m f) {x:Int} (hx: -9223372036854775808<=x/\x<=9223372036854775807) (d:D):kP (iM m (.int .i64 x) d) fun y=>if y=x then some d else f y where
 keys:=fun p hp=>by
  rcases J0 hp with rfl|hp
  ·exact⟨x,hx,rfl⟩
  ·exact h.keys p hp
 get:=fun y=>by
  by_cases e:y=x
  ·subst e;rw[pR,aE rfl]
  ·rw[wQ _ _ (fun he=>e (by injection he with _ he;exact he.symm)),aA e];exact h.get y
theorem sI {P:Program} {k:TypeId} (hk:P.underlying k=some (.int .i64)) {x:Int} (hx: -9223372036854775808<=x/\x<=9223372036854775807):∃l,keyOf P k (.int .i64 x)=some l:=by
 unfold keyOf
 rw[hk]
 simp only[mapKey,hk]
 rw[aE ⟨trivial,by simp [Lit.wf,IntKind.min,IntKind.max,IntKind.signed,IntKind.bits];omega⟩]
 exact⟨_,rfl⟩
theorem kP.ok {P:Program} {k:TypeId} (hk:P.underlying k=some (.int .i64)) {m:List (Value×D)} {f:Int->Option D} (h:kP m f) {x:Int} (hx: -9223372036854775808<=x/\x<=9223372036854775807):kOK P k m (.int .i64 x):=
 ⟨Go.Maps.int_keyed hk,sI hk hx,fun p hp=>by obtain⟨y,hy,e⟩:=h.keys p hp;rw[e];exact sI hk hy⟩
theorem kP.congr {m:List (Value×D)} {f g:Int->Option D} (h:kP m f) (he:∀x,f x=g x):kP m g:=⟨h.keys,fun x=>(h.get x).trans (he x)⟩
end Go.Proofs.YtfiipaodjpiooaaGreatDoor
namespace Go.Proofs.YtfiipaodjpiooaaGreatDoor
open Go.RowKit
def nQ (N:St->Prop):Exit->St->Prop
 | .normal,s=>N s
 |_,_=>False
theorem aZO (N:St->Prop) (s:St):nQ N .normal s=N s:=rfl
theorem aDu {N:St->Prop} {Q:Exit->St->Prop} (h:∀s,N s->Q .normal s):∀e s,nQ N e s->Q e s:=fun e s q=>by
 cases e <;> first|exact h s q|exact q.elim
def MP (cx:Cx) (aX:Array Oper) (Q:Exit->St->Prop):List Oper->St->Prop
 |[],s=>Q .normal s
 |o::eJ,s=>(match o.guard with
  |none=>zH cx o s fun s'=>if kV o.op then WL cx aX eJ Q s' else MP cx aX Q eJ s'
  |some _=>WL cx aX (o::eJ) Q s)
def MQ (cx:Cx) (aX:Array Oper) (Q:Exit->St->Prop):List Oper->St->Prop
 |[],s=>Q .normal s
 |o::eJ,s=>(match o.guard with
  |none=>eG cx o s fun s'=>if kV o.op then WL cx aX eJ Q s' else MQ cx aX Q eJ s'
  |some _=>WL cx aX (o::eJ) Q s)
theorem RX {n:Nat} {o:Oper} {l:List Oper} (hl:gJ n (o::l)=true):DE n o.dst/\gJ n l=true:=by
 simp only[gJ,pX,eK] at hl
 refine⟨?_,hl.2⟩
 have:=hl.1
 unfold DE
 cases ho:o.dst with
 |none=>trivial
 |some t=>rw[ho] at this;simpa using this
theorem cH {cx:Cx} {aX:List Oper} {Q:Exit->St->Prop}:∀{l:List Oper} {s:St},gJ cx.n l=true->MP cx aX.toArray Q l s->WL cx aX.toArray l Q s
 |[],s,_,h=>WR h
 |o::eJ,s,hl,h=>by
  obtain⟨hd,hr⟩:=RX hl
  simp only[MP] at h
  split at h
  ·rename_i hg
   refine wJ hg (E0 (zI hd h) fun s' h'=>?_)
   split at h'
   ·exact h'
   ·exact cH hr h'
  ·exact h
theorem CR {cx:Cx} {aX:List Oper} {Q:Exit->St->Prop}:∀{l:List Oper} {s:St},gJ cx.n l=true->MQ cx aX.toArray Q l s->WL cx aX.toArray l Q s
 |[],s,_,h=>WR h
 |o::eJ,s,hl,h=>by
  obtain⟨hd,hr⟩:=RX hl
  simp only[MQ] at h
  split at h
  ·rename_i hg
   refine wJ hg (E0 (rY hd h) fun s' h'=>?_)
   split at h'
   ·exact h'
   ·exact CR hr h'
  ·exact h
theorem aNF {cx:Cx} {id:Nat} {aX:List Oper} {Q:Exit->St->Prop} {s:St} (fI:gJ cx.n aX=true) (h:∀N:St->Prop,(∀s,Q .normal s->N s)->MP cx aX.toArray (nQ N) aX s):W cx (.region id aX.toArray false) Q s:=
 vP (IZ (cH fI (h (Q .normal) fun _ h=>h))) (aDu fun _ h=>h)
theorem aNG {cx:Cx} {id:Nat} {aX:List Oper} {Q:Exit->St->Prop} {s:St} (fI:gJ cx.n aX=true) (h:∀N:St->Prop,(∀s,Q .normal s->N s)->MQ cx aX.toArray (nQ N) aX s):W cx (.region id aX.toArray false) Q s:=
 vP (IZ (CR fI (h (Q .normal) fun _ h=>h))) (aDu fun _ h=>h)
def gS (cx:Cx) (o:Oper) (s:St) (t:Nat) (fL:Bool) (d:D) (N:St->Prop):Prop:=
 match d with
 | .val (.bool b)=>CL (b==fL) (zH cx o s N) (N (s.put o.dst (.val undef)))
 | .val (.tuple ⟨[]⟩)=>N (s.put o.dst (.val undef))
 |_=>False
def gT (cx:Cx) (o:Oper) (s:St) (t:Nat) (fL:Bool) (d:D) (N:St->Prop):Prop:=
 match d with
 | .val (.bool b)=>CL (b==fL) (eG cx o s N) (N (s.put o.dst (.val undef)))
 | .val (.tuple ⟨[]⟩)=>N (s.put o.dst (.val undef))
 |_=>False
theorem aMZ {cx:Cx} {aX:List Oper} {o:Oper} {eJ:List Oper} {Q:Exit->St->Prop} {s:St} {j t:Nat} {fL:Bool} (hg:o.guard=some (j,fL)) (hj:qF aX.toArray j=some t) (fI:gJ cx.n aX=true) (hl:gJ cx.n (o::eJ)=true)
  {d:D} (hd:s.fr t=d) (h:(∃b,d=.val (.bool b)/\(b=fL->WO cx o (WL cx aX.toArray eJ Q) s)/\(b= !fL->WL cx aX.toArray eJ Q (s.put o.dst (.val undef))))\/(d=.val undef/\WL cx aX.toArray eJ Q (s.put o.dst (.val undef)))):WL cx aX.toArray (o::eJ) Q s:=by
 obtain⟨hdo,hr⟩:=RX hl
 have T6:t<cx.n:=by
  unfold qF at hj
  cases hq:aX.toArray[j]? with
  |none=>rw[hq] at hj;cases hj
  |some o'=>
   rw[hq] at hj
   have:=(eZ.1 fI) o' (by have:=F1 hq;simpa using this)
   simp at hj
   rw[hj] at this
   simpa using this
 refine AP hg hj T6 (j8 hdo) ?_
 rw[hd]
 exact h
theorem mS {cx:Cx} {aX:List Oper} {o:Oper} {eJ:List Oper} {Q:Exit->St->Prop} {s:St} {j t:Nat} {fL:Bool} (hg:o.guard=some (j,fL)) (hj:qF aX.toArray j=some t) (fI:gJ cx.n aX=true) (hl:gJ cx.n (o::eJ)=true)
  (h:∀N:St->Prop,(∀s,WL cx aX.toArray eJ Q s->N s)->gS cx o s t fL (s.fr t) N):WL cx aX.toArray (o::eJ) Q s:=by
 have h:=h (WL cx aX.toArray eJ Q) fun _ h=>h
 refine aMZ hg hj fI hl rfl ?_
 unfold gS at h
 split at h
 ·rename_i b hb
  rw[yE] at h
  exact .inl ⟨b,hb,fun e=>zI (RX hl).1 (h.1 e),h.2⟩
 ·rename_i hb
  exact .inr ⟨hb,h⟩
 ·exact h.elim
theorem aPg {cx:Cx} {aX:List Oper} {o:Oper} {eJ:List Oper} {Q:Exit->St->Prop} {s:St} {j t:Nat} {fL:Bool} (hg:o.guard=some (j,fL)) (hj:qF aX.toArray j=some t) (fI:gJ cx.n aX=true) (hl:gJ cx.n (o::eJ)=true)
  (h:∀N:St->Prop,(∀s,WL cx aX.toArray eJ Q s->N s)->gT cx o s t fL (s.fr t) N):WL cx aX.toArray (o::eJ) Q s:=by
 have h:=h (WL cx aX.toArray eJ Q) fun _ h=>h
 refine aMZ hg hj fI hl rfl ?_
 unfold gT at h
 split at h
 ·rename_i b hb
  rw[yE] at h
  exact .inl ⟨b,hb,fun e=>rY (RX hl).1 (h.1 e),h.2⟩
 ·rename_i hb
  exact .inr ⟨hb,h⟩
 ·exact h.elim
theorem mJ {cx:Cx} {Q:Exit->St->Prop} {s:St} {c:Operand} {x y:Code} (h:∀A B:Prop,(W cx x Q s->A)->(W cx y Q s->B)->tY (s.ev c) A B):W cx (.cond c x y) Q s:=
 vO (h _ _ (fun h=>h) fun h=>h)
def aCo (P:Program) (G:Option Tmp->List D->D->aC->Prop) (H:aC) (aX:Array Oper) (Q:St->Prop):List Oper->St->Prop
 |[],s=>Q s
 |o::eJ,s=>(match o.guard with
  |none=>gN P G H s o fun d A=>sN A s.H->aCo P G H aX Q eJ (s.out o d A)
  |some _=>PG P G H aX Q (o::eJ) s)
theorem PH {P:Program} {G:Option Tmp->List D->D->aC->Prop} {H:aC} {aX:Array Oper} {Q:St->Prop}:∀{l:List Oper} {s:St},aCo P G H aX Q l s->PG P G H aX Q l s
 |[],s,h=>h
 |o::eJ,s,h=>by
  simp only[aCo] at h
  split at h
  ·rename_i hg
   show tZ P G H aX s o _
   unfold tZ
   rw[hg]
   exact(I5 P G H s o).2 _ _ (fun d A hk hd=>PH (hk hd)) h
  ·exact h
def gdY (P:Program) (G:Option Tmp->List D->D->aC->Prop) (H:aC) (s:St) (o:Oper) (fL:Bool) (d:D) (K:D->aC->Prop):Prop:=
 match d with
 | .val (.bool b)=>CL (b==fL) (gN P G H s o K) (K (.val undef) .none)
 | .val (.tuple ⟨[]⟩)=>K (.val undef) .none
 |_=>False
theorem aUx {P:Program} {G:Option Tmp->List D->D->aC->Prop} {H:aC} {aX:List Oper} {Q:St->Prop} {o:Oper} {eJ:List Oper} {s:St} {j t:Nat} {fL:Bool} (hg:o.guard=some (j,fL)) (hj:qF aX.toArray j=some t)
  (h:∀N:St->Prop,(∀s,PG P G H aX.toArray Q eJ s->N s)->gdY P G H s o fL (s.fr t) fun d A=>sN A s.H->N (s.out o d A)):PG P G H aX.toArray Q (o::eJ) s:=by
 have h:=h (PG P G H aX.toArray Q eJ) fun _ h=>h
 show tZ P G H aX.toArray s o _
 unfold tZ
 rw[hg]
 simp only[hj]
 unfold gdY at h
 exact h
theorem WU {cx:Cx} {id:Nat} {aX:List Oper} {Q:Exit->St->Prop} {s:St} (G:Option Tmp->List D->D->aC->Prop) (hm:cx.P.follows .mixedOrders=true) (fI:gJ cx.n aX=true) (qW:yX aX=true)
  (h:∀N:St->Prop,(∀s,Q .normal s->N s)->PG cx.P G s.H aX.toArray N aX s):W cx (.region id aX.toArray true) Q s:=
 vP (WT (Q:=nQ (Q .normal)) G hm fI qW (h (Q .normal) fun _ h=>h)) (aDu fun _ h=>h)
def ZO (P:Program) (fl wc:Option Tmp->Bool) (G:Option Tmp->List D->D->aC->Prop) (GW:Option Tmp->List D->aC->D->aC->Prop) (aX:Array Oper) (Q:St->Prop):aC->List Oper->St->Prop
 |_,[],s=>Q s
 |H,o::eJ,s=>(match o.guard with
  |none=>if jV wc o=true then oS P GW s o fun d H'=>ZO P fl wc G GW aX Q H' eJ (s.pT o d H')
   else gN P G (BS fl H o) s o fun d A=>sN A s.H->ZO P fl wc G GW aX Q H eJ (s.out o d A)
  |some _=>II P fl wc G GW aX Q H (o::eJ) s)
theorem PI {P:Program} {fl wc:Option Tmp->Bool} {G:Option Tmp->List D->D->aC->Prop} {GW:Option Tmp->List D->aC->D->aC->Prop} {aX:Array Oper} {Q:St->Prop}:∀{l:List Oper} {H:aC} {s:St},ZO P fl wc G GW aX Q H l s->II P fl wc G GW aX Q H l s
 |[],H,s,h=>h
 |o::eJ,H,s,h=>by
  simp only[ZO] at h
  split at h
  ·rename_i hg
   unfold II
   split at h
   ·rename_i hw
    rw[aE hw]
    unfold gW
    rw[hg]
    exact(SY P GW s o).2 _ _ (fun d A hk=>PI hk) h
   ·rename_i hw
    rw[aA hw]
    unfold tZ
    rw[hg]
    exact(I5 P G _ s o).2 _ _ (fun d A hk hd=>PI (hk hd)) h
  ·exact h
theorem aCx {cx:Cx} {id:Nat} {aX:List Oper} {Q:Exit->St->Prop} {s:St} (fl wc:Option Tmp->Bool) (G:Option Tmp->List D->D->aC->Prop) (GW:Option Tmp->List D->aC->D->aC->Prop) (hm:cx.P.follows .mixedOrders=true)
  (fI:gJ cx.n aX=true) (qW:yX aX=true) (LZ:SN aX (NN aX)=true) (aCI:aBE fl wc aX (NN aX)=true)
  (h:∀N:St->Prop,(∀s,Q .normal s->N s)->II cx.P fl wc G GW aX.toArray N s.H aX s):W cx (.region id aX.toArray true) Q s:=
 vP (aNH (Q:=nQ (Q .normal)) fl wc G GW hm fI qW LZ aCI (h (Q .normal) fun _ h=>h)) (aDu fun _ h=>h)
theorem dE {cx:Cx} {id:Nat} {aX:List Oper} {Q:Exit->St->Prop} {s:St} (G:Option Tmp->List D->D->aC->Prop) (h:∀N:St->Prop,(∀s,Q .normal s->N s)->PG cx.P G s.H aX.toArray N aX s) (hm:cx.P.follows .mixedOrders=true:=by kernel_rfl) (fI:gJ cx.n aX=true:=by kernel_rfl) (qW:yX aX=true:=by kernel_rfl):W cx (.region id aX.toArray true) Q s:=WU G hm fI qW h
theorem wE {cx:Cx} {id:Nat} {aX:List Oper} {Q:Exit->St->Prop} {s:St} (fl wc:Option Tmp->Bool) (G:Option Tmp->List D->D->aC->Prop) (GW:Option Tmp->List D->aC->D->aC->Prop) (h:∀N:St->Prop,(∀s,Q .normal s->N s)->ZO cx.P fl wc G GW aX.toArray N s.H aX s)
  (hm:cx.P.follows .mixedOrders=true:=by kernel_rfl) (fI:gJ cx.n aX=true:=by kernel_rfl) (qW:yX aX=true:=by kernel_rfl) (LZ:SN aX (NN aX)=true:=by kernel_rfl) (aCI:aBE fl wc aX (NN aX)=true:=by kernel_rfl):W cx (.region id aX.toArray true) Q s:=aCx fl wc G GW hm fI qW LZ aCI fun N hN=>PI (h N hN)
theorem aBd {cx:Cx} {x y:Code} {Q:Exit->St->Prop} {s:St} (t:Nat) (d0 d:D) (hi:Imp d0 d) (M:St->Prop) (h1:W cx x (gK (fun s'=>M s'\/(s'.fr t=d0/\M (s'.put (some t) d))) (fun _ _=>False)) s) (h2:∀s,M s->W cx y Q s):W cx (.seq x y) Q s:=
 aCv _ h1 fun s' h=>by
  rcases h with h|⟨h,hm⟩
  ·exact h2 s' h
  ·exact aND t d (fun w v hv=>hi _ _ _ (by rw[h] at hv;exact hv)) (h2 _ hm)
theorem aDP {H:aC} {b o sz n:Nat} {t:TypeId} {els:List (List D)} (h:H b=some (.row t o sz els)) (hn:n=els.length):nH H sz (.os b o sz 0 n) (·=els):=by
 subst hn
 simp only[nH,h,jB,nC]
 exact⟨trivial,trivial,trivial,by omega,trivial⟩
def Dom (H0 H':aC):Prop:=∀b,H' b=none->H0 b=none
theorem xT {H0 H':aC} (h:Dom H0 H') (w:World):Ev H' w H0 w:=⟨rfl,rfl,rfl,dI _,fun b _ hn=>⟨rfl,h b hn⟩,fun _ _ _ fr h=>⟨_,fr,h,rfl⟩⟩
theorem aAZ {H0 H':aC} {d:D} (h:Dom H0 H'):GB H0 H' d d:=fun w v _ hv=>qD (xT h w).kept d hv
theorem aGl {H0 H':aC} {b o sz k n:Nat} {ty:TypeId} {els:List (List D)} (hd:Dom H0 H') (hb:H' b=some (.row ty o sz els)) (h0:H0 b=none) (hn:k+n<=els.length):GB H0 H' (.os b o sz k n) (.seq sz ((els.drop k).take n)):=fun w v hH hv=>by
 have hd':Dom H0 (H'.del b):=fun c hc=>by
  by_cases e:c=b
  ·rw[e];exact h0
  ·rw[bS e] at hc;exact hd c hc
 exact qD (xT hd' w).kept _ (XW hH hb hn hv)
theorem NO {H0 H':aC} {w:World} (hH:iK w H') {g:Value->D}:∀{m:List (Value×D)} {vs:List Value},(∀p∈m,GB H0 H' p.2 (g p.1))->aW w H'.others (m.map (·.2)) vs->aW w H0.others ((m.map fun p=>(p.1,g p.1)).map (·.2)) vs
 |[],vs,_,h=>by simp only[nE,aW] at h ⊢;exact h
 |p::m,vs,hf,h=>by
  simp only[eU,aW] at h ⊢
  obtain⟨u,us,rfl,h1,h2⟩:=h
  exact⟨u,us,rfl,hf p (by simp) w u hH h1,NO hH (fun q hq=>hf q (by simp [hq])) h2⟩
theorem NI:∀{m:List (Value×D)} {p:Value×D},(m.map (·.1)).Nodup->p∈m->mX m p.1=some p.2
 |[],p,_,h=>by cases h
 |q::m,p,hn,h=>by
  rw[eU,zT] at hn
  simp only[mX]
  rcases dJ.1 h with rfl|h
  ·rw[aE rfl]
  ·rw[aA fun (e:q.1=p.1)=>hn.1 (by rw[e];exact KR (f:=(·.1)) h)]
   exact NI hn.2 h
theorem VR (g:Value->D):∀(m:List (Value×D)) (x:Value),mX (m.map fun p=>(p.1,g p.1)) x=(mX m x).map fun _=>g x
 |[],x=>rfl
 |q::m,x=>by
  simp only[eU,mX]
  by_cases e:q.1=x
  ·rw[aE e,aE e,e];rfl
  ·rw[aA e,aA e];exact VR g m x
theorem kP.aZN {m:List (Value×D)} {f:Int->Option D} (h:kP m f) (g:Value->D):kP (m.map fun p=>(p.1,g p.1)) fun x=>(f x).map fun _=>g (.int .i64 x) where
 keys:=fun p hp=>by
  obtain⟨q,hq,rfl⟩:=eW.1 hp
  exact h.keys q hq
 get:=fun x=>by rw[VR,h.get]
theorem iK.R8 {H0 H':aC} {w:World} (hd:Dom H0 H') (hH:iK w H')
  (h:∀b x,H0 b=some x->H' b=some x\/∃(m:List (Value×D)) (g:Value->D),H' b=some (.map m)/\x=.map (m.map fun p=>(p.1,g p.1))/\((m.map (·.1)).Nodup->∀p∈m,GB H0 H' p.2 (g p.1))):iK w H0:=fun b x hb=>by
 rcases h b x hb with h|⟨m,g,h1,rfl,h2⟩
 ·exact(xT hd w).sZ rfl (hH b x h)
 ·obtain⟨es,cI,e1,e2,e3,e4,e5⟩:=hH b _ h1
  refine⟨es,cI,e1,?_,NO hH (h2 e4) e3,?_⟩
  ·rw[e2,oZ];rfl
  ·rw[oZ];exact⟨e4,e5⟩
theorem bE.R8 {P:Program} {f:FuncId} {ds:List D} {H:aC} {K K0:D->aC->Prop} (h:bE P f ds H K)
  (hk:∀d H',K d H'->∃d0 H0,Dom H0 H'/\(∀w,iK w H'->iK w H0)/\GB H0 H' d d0/\K0 d0 H0):bE P f ds H K0:=
 And.intro h.1 fun w vs zD hH hG=>(h.2 w vs zD hH hG).mono fun e w' ⟨v,d,H',he,hd,hH',lO,HP⟩=>by
  obtain⟨d0,H0,h1,h2,h3,h4⟩:=hk d H' HP
  exact⟨v,d0,H0,he,h3 w' v hH' hd,h2 w' hH',lO.trans (xT h1 w'),h4⟩
def i64 (n:Int):D:=.val (.int .i64 n)
theorem wS (i:Nat) (h: -9223372036854775808<=(i:Int)+1/\(i:Int)+1<=9223372036854775807):IntKind.i64.wrap ((i:Int)+1)=((i+1:Nat):Int):=by rw[bF h];omega
theorem lm {α β:Type} (f:α->β) (l:List α):(List.map f l).length=l.length:=bC _
theorem lF (i n:Nat) (h:n<=i):((i:Int)<(n:Int))=False:=aI (by omega)
theorem lT (i n:Nat) (h:i<n):((i:Int)<(n:Int))=True:=aK (by omega)
theorem qK {P Q:Prop} (hq:Q) (h:Q->P:=by intro h;simp (maxSteps:=4000000) only[vX,vB,vT,vZ,oN,kV,mmV,O6,RT,mB,jI,kW,↓nV,OS,eG,W8,QF,U2,yQ,yM,AQ,AR,sF,qE,sE,oL,D.nilPtr,D.nK,D.mY,jK,UK,U8,K3,nH,rE,fieldsOf,l3,TW,UA,UB,UC,EP,TK,D.cells,rG,W4,WW,AS,iN,iL,TS,S8,qI,YS,DG,UI,mK,TD.kX,TD.agg,ZY,DI,yN,cpV,wP,AE,AD,UD,TV,tY,BK,gK,iV,Value.oneCell',nY,nW,mR,reduceCtorEq,sB,oA,fO,fW,↓reduceIte,Nat.reduceEqDiff,Int.reduceLE,Int.reduceLT,Int.reduceNeg,Int.reduceToNat,Nat.reduceAdd,Nat.reduceMul,Nat.reduceLeDiff,Nat.reduceMod,Nat.reduceSub,Int.reduceEq,Int.reduceNe,Int.reduceAdd,Int.reduceSub,Int.reduceMul,nX,eY,eX,eN,bW,eQ,lD,fP,jC,kY,j9,jT,jU,jS,v7,zH,bsQ,aZO,MP,MQ,gS,gT,i64,fs];exact h):P:=h hq
theorem G2 {P Q:Prop} (hq:Q) (h:Q->P:=by intro h;simp (maxSteps:=4000000) only[vX,vB,vT,vZ,oN,kV,mmV,O6,RT,mB,jI,kW,↓nV,OS,eG,W8,QF,U2,yQ,yM,AQ,AR,sF,qE,sE,oL,D.nilPtr,D.nK,D.mY,jK,UK,U8,K3,nH,rE,fieldsOf,l3,TW,UA,UB,UC,EP,TK,D.cells,rG,W4,WW,AS,iN,iL,TS,S8,qI,YS,DG,UI,mK,TD.kX,TD.agg,ZY,DI,yN,cpV,wP,AE,AD,UD,TV,tY,BK,gK,iV,Value.oneCell',nY,nW,mR,reduceCtorEq,sB,oA,fO,fW,↓reduceIte,Nat.reduceEqDiff,Int.reduceLE,Int.reduceLT,Int.reduceNeg,Int.reduceToNat,Nat.reduceAdd,Nat.reduceMul,Nat.reduceLeDiff,Nat.reduceMod,Nat.reduceSub,Int.reduceEq,Int.reduceNe,Int.reduceAdd,Int.reduceSub,Int.reduceMul,nX,eY,eX,eN,bW,eQ,lD,fP,jC,kY,j9,jT,jU,jS,v7,zH,bsQ,i64,fs];exact h):P:=h hq
theorem evG {P Q:Prop} (hq:Q) (h:Q->P:=by intro h;simp (maxSteps:=4000000) only[vX,vB,vT,vZ,oN,kV,mmV,O6,RT,mB,jI,kW,↓nV,OS,eG,W8,QF,U2,yQ,yM,AQ,AR,sF,qE,sE,oL,D.nilPtr,D.nK,D.mY,jK,UK,U8,K3,nH,rE,fieldsOf,l3,TW,UA,UB,UC,EP,TK,D.cells,rG,W4,WW,AS,iN,iL,TS,S8,qI,YS,DG,UI,mK,TD.kX,TD.agg,ZY,DI,yN,cpV,wP,AE,AD,UD,TV,tY,BK,gK,iV,Value.oneCell',nY,nW,mR,reduceCtorEq,sB,oA,fO,fW,↓reduceIte,Nat.reduceEqDiff,Int.reduceLE,Int.reduceLT,Int.reduceNeg,Int.reduceToNat,Nat.reduceAdd,Nat.reduceMul,Nat.reduceLeDiff,Nat.reduceMod,Nat.reduceSub,Int.reduceEq,Int.reduceNe,Int.reduceAdd,Int.reduceSub,Int.reduceMul,nX,eY,eX,eN,bW,eQ,lD,fP,jC,kY,j9,jT,jU,jS,i64,fs];exact h):P:=h hq
theorem TU {P Q:Prop} (hq:Q) (h:Q->P:=by intro h;simp (maxSteps:=4000000) only[vX,vB,vT,vZ,oN,kV,mmV,O6,RT,mB,jI,kW,↓nV,OS,eG,W8,QF,U2,yQ,yM,AQ,AR,sF,qE,sE,oL,D.nilPtr,D.nK,D.mY,jK,UK,U8,K3,nH,rE,fieldsOf,l3,TW,UA,UB,UC,EP,TK,D.cells,rG,W4,WW,AS,iN,iL,TS,S8,qI,YS,DG,UI,mK,TD.kX,TD.agg,ZY,DI,yN,cpV,wP,AE,AD,UD,TV,tY,BK,gK,iV,Value.oneCell',nY,nW,mR,reduceCtorEq,sB,oA,fO,fW,↓reduceIte,Nat.reduceEqDiff,Int.reduceLE,Int.reduceLT,Int.reduceNeg,Int.reduceToNat,Nat.reduceAdd,Nat.reduceMul,Nat.reduceLeDiff,Nat.reduceMod,Nat.reduceSub,Int.reduceEq,Int.reduceNe,Int.reduceAdd,Int.reduceSub,Int.reduceMul,nX,eY,eX,eN,bW,eQ,lD,fP,jC,kY,j9,jT,jU,jS,aCo,ZO,gdY,gN,St.out,sC,qC,nP,nO,oU,or_true,true_or,zV,u9,↓HI,↓ZP,BS,TX,gC,jV,oS,St.pT,i64,fs];exact h):P:=h hq
theorem tS {cx:Cx} {id:Nat} {aX:List Oper} {Q:Exit->St->Prop} {s:St} (h:∀N:St->Prop,(∀s,Q .normal s->N s)->MP cx aX.toArray (nQ N) aX s) (fI:gJ cx.n aX=true:=by kernel_rfl):W cx (.region id aX.toArray false) Q s:=aNF fI h
theorem tT {cx:Cx} {id:Nat} {aX:List Oper} {Q:Exit->St->Prop} {s:St} (h:∀N:St->Prop,(∀s,Q .normal s->N s)->MQ cx aX.toArray (nQ N) aX s) (fI:gJ cx.n aX=true:=by kernel_rfl):W cx (.region id aX.toArray false) Q s:=aNG fI h
theorem dmN {P:Prop} (h:∀N:St->Prop,(∀s,N s->N s)->P):P:=h (fun _=>True) fun _ h=>h
theorem tq {F P Q:Prop} (fs:F) (hq:Q) (h:F->Q->P:=by
 intro fs h
 (repeat(first|(refine M8 _ ?_;try clear M8 G1)|(refine N0 _ ?_;try clear N0 N1)|refine aF _ ?_|refine aB _ ?_|refine dW ?_|refine dV ?_|refine fE ?_|refine cU ?_|refine cV ?_|refine cL ?_|refine bP ?_|((first|refine tS fun N1 N0=>?_|refine mS rfl rfl (by kernel_rfl) (by kernel_rfl) fun G1 M8=>?_|refine cH (by kernel_rfl) ?_|refine mJ fun A1 B1 hA1 hB1=>?_);refine qK ?_;(first|(refine M8 _ ?_;try clear M8 G1)|(refine N0 _ ?_;try clear N0 N1)|refine aF _ ?_|refine aB _ ?_|(refine hA1 ?_;try clear hA1 hB1 A1 B1)|(refine hB1 ?_;try clear hA1 hB1 A1 B1)|skip))))
 (first|(revert M8;revert G1)|(have M8:=aF;revert M8;generalize Gx=G1;revert G1)|refine dmN ?_)
 (first|(revert N0;revert N1)|(have N0:=aB;revert N0;generalize Nx=N1;revert N1)|refine dmN ?_)
 exact h):P:=h fs hq
theorem to {F P Q:Prop} (fs:F) (hq:Q) (h:F->Q->P:=by
 intro fs h
 (repeat(first|(refine M8 _ ?_;try clear M8 G1)|(refine N0 _ ?_;try clear N0 N1)|refine aF _ ?_|refine aB _ ?_|refine dW ?_|refine dV ?_|refine fE ?_|refine cU ?_|refine cV ?_|refine cL ?_|refine bP ?_|((first|refine tT fun N1 N0=>?_|refine aPg rfl rfl (by kernel_rfl) (by kernel_rfl) fun G1 M8=>?_|refine CR (by kernel_rfl) ?_|refine mJ fun A1 B1 hA1 hB1=>?_);refine qK ?_;(first|(refine M8 _ ?_;try clear M8 G1)|(refine N0 _ ?_;try clear N0 N1)|refine aF _ ?_|refine aB _ ?_|(refine hA1 ?_;try clear hA1 hB1 A1 B1)|(refine hB1 ?_;try clear hA1 hB1 A1 B1)|skip))))
 (first|(revert M8;revert G1)|(have M8:=aF;revert M8;generalize Gx=G1;revert G1)|refine dmN ?_)
 (first|(revert N0;revert N1)|(have N0:=aB;revert N0;generalize Nx=N1;revert N1)|refine dmN ?_)
 exact h):P:=h fs hq
theorem dst {F P Q:Prop} (fs:F) (hq:Q) (h:F->Q->P:=by
 intro fs h
 (repeat((first|refine aUx rfl rfl fun G1 M8=>?_|refine PH ?_);refine TU ?_;(first|(refine M8 _ ?_;try clear M8 G1)|(refine N0 _ ?_;try clear N0 N1)|refine aF _ ?_|refine aB _ ?_|skip)))
 (first|(revert M8;revert G1)|(have M8:=aF;revert M8;generalize Gx=G1;revert G1)|refine dmN ?_)
 (first|(revert N0;revert N1)|(have N0:=aB;revert N0;generalize Nx=N1;revert N1)|refine dmN ?_)
 exact h):P:=h fs hq
structure Hd (P:Prop):Prop where
 out:P
theorem rt {F X P:Prop} {R Q:Exit->St->Prop} (aD:∀e s,e=.normal\/e=.ret->s.df=[]->R e s->Q e s) (fs:F) (hx:X) (h:(∀e s,e=.normal\/e=.ret->s.df=[]->R e s->Q e s)->F->Hd X->P:=by
 intro aD fs h
 (first|(show Q .ret _)|(show Q .normal _)|skip)
 refine aD _ _ (by first|exact .inr rfl|exact .inl rfl) (by first|rfl|assumption|(simp only[IC,BQ];assumption)) ?_
 refine qK ?_
 exact h.out):P:=h aD fs ⟨hx⟩
theorem Y9 {F X P:Prop} {R Q:Exit->St->Prop} (aD:∀e s,e=.normal\/e=.ret->s.df=[]->R e s->Q e s) (fs:F) (hx:X) (h:(∀e s,e=.normal\/e=.ret->s.df=[]->R e s->Q e s)->F->Hd X->P:=by
 intro aD fs h
 (first|(show Q .ret _)|(show Q .normal _)|skip)
 refine aD _ _ (by first|exact .inr rfl|exact .inl rfl) (by first|rfl|assumption|(simp only[IC,BQ];assumption)) ?_
 refine G2 ?_
 exact h.out):P:=h aD fs ⟨hx⟩
theorem oz {F E P:Prop} {R Q:Exit->St->Prop} {H H':aC} (aD:∀e s,e=.normal\/e=.ret->s.df=[]->R e s->Q e s) (fs:F) (aS:H.le H') (e:E) (h:(∀e s,e=.normal\/e=.ret->s.df=[]->R e s->Q e s)->F->H.le H'->E->P:=by
 intro aD fs aS e
 (repeat(first|(refine M8 _ ?_;try clear M8 G1)|(refine N0 _ ?_;try clear N0 N1)|refine aF _ ?_|refine aB _ ?_|refine dW ?_|refine dV ?_|refine fE ?_|refine cU ?_|refine cV ?_|refine cL ?_|refine bP ?_|((first|refine tS fun N1 N0=>?_|refine mS rfl rfl (by kernel_rfl) (by kernel_rfl) fun G1 M8=>?_|refine cH (by kernel_rfl) ?_|refine mJ fun A1 B1 hA1 hB1=>?_);refine qK ?_;(first|(refine M8 _ ?_;try clear M8 G1)|(refine N0 _ ?_;try clear N0 N1)|refine aF _ ?_|refine aB _ ?_|(refine hA1 ?_;try clear hA1 hB1 A1 B1)|(refine hB1 ?_;try clear hA1 hB1 A1 B1)|skip))))
 (first|(show Q .ret _)|(show Q .normal _)|skip)
 refine aD _ _ (by first|exact .inr rfl|exact .inl rfl) (by first|rfl|assumption|(simp only[IC,BQ];assumption)) ?_
 refine qK ?_
 exact⟨_,aG _,aS,_,aH aS,by(rw[e];try rfl)⟩):P:=h aD fs aS e
def AtT (t:Nat) (P:Prop):Prop:=P
theorem aPz {cx:Cx} {c:Code} {Q:Exit->St->Prop} {s:St} {t b o sz i k:Nat} {ty:TypeId} {els:List (List D)} {el:List D} (ht:s.fr t=.ep b o sz i k) (hb:s.H b=some (.row ty o sz els)) (hi:els[i]?=some el) (h:W cx c Q (s.jH t b k el)):AtT t (W cx c Q s):=cA t ht hb hi h
theorem fZ {P Q:Prop} {H:aC} {b:Nat} (t:Nat) (hb:H b=Option.none) (hq:Q) (h:H b=Option.none->Q->AtT t P:=by
 intro hb h
 refine aPz rfl (aO _ _ _) rfl ?_
 simp only[St.jH,s5,eX,lX,nA,bW,jN,aCL,HU,wC,tH hb,aCq]
 exact h):P:=h hb hq
theorem dG {A0 A1:Prop} (a0:A0) (a1:A1):A0/\A1:=⟨a0,a1⟩
theorem eA {A0 A1 A2:Prop} (a0:A0) (a1:A1) (a2:A2):A0/\A1/\A2:=⟨a0,a1,a2⟩
theorem gQ {A0 A1 A2 A3:Prop} (a0:A0) (a1:A1) (a2:A2) (a3:A3):A0/\A1/\A2/\A3:=⟨a0,a1,a2,a3⟩
theorem jE {A0 A1 A2 A3 A4:Prop} (a0:A0) (a1:A1) (a2:A2) (a3:A3) (a4:A4):A0/\A1/\A2/\A3/\A4:=⟨a0,a1,a2,a3,a4⟩
theorem kB {A0 A1 A2 A3 A4 A5:Prop} (a0:A0) (a1:A1) (a2:A2) (a3:A3) (a4:A4) (a5:A5):A0/\A1/\A2/\A3/\A4/\A5:=⟨a0,a1,a2,a3,a4,a5⟩
theorem nF {A0 A1 A2 A3 A4 A5 A6:Prop} (a0:A0) (a1:A1) (a2:A2) (a3:A3) (a4:A4) (a5:A5) (a6:A6):A0/\A1/\A2/\A3/\A4/\A5/\A6:=⟨a0,a1,a2,a3,a4,a5,a6⟩
theorem wG {A0 A1 A2 A3 A4 A5 A6 A7:Prop} (a0:A0) (a1:A1) (a2:A2) (a3:A3) (a4:A4) (a5:A5) (a6:A6) (a7:A7):A0/\A1/\A2/\A3/\A4/\A5/\A6/\A7:=⟨a0,a1,a2,a3,a4,a5,a6,a7⟩
theorem BR {A0 A1 A2 A3 A4 A5 A6 A7 A8:Prop} (a0:A0) (a1:A1) (a2:A2) (a3:A3) (a4:A4) (a5:A5) (a6:A6) (a7:A7) (a8:A8):A0/\A1/\A2/\A3/\A4/\A5/\A6/\A7/\A8:=⟨a0,a1,a2,a3,a4,a5,a6,a7,a8⟩
theorem nN {A0 A1 A2 A3 A4 A5 A6 A7 A8 A9:Prop} (a0:A0) (a1:A1) (a2:A2) (a3:A3) (a4:A4) (a5:A5) (a6:A6) (a7:A7) (a8:A8) (a9:A9):A0/\A1/\A2/\A3/\A4/\A5/\A6/\A7/\A8/\A9:=⟨a0,a1,a2,a3,a4,a5,a6,a7,a8,a9⟩
theorem rQ {A0 A1 A2 A3 A4 A5 A6 A7 A8 A9 C9:Prop} (a0:A0) (a1:A1) (a2:A2) (a3:A3) (a4:A4) (a5:A5) (a6:A6) (a7:A7) (a8:A8) (a9:A9) (NU:C9):A0/\A1/\A2/\A3/\A4/\A5/\A6/\A7/\A8/\A9/\C9:=⟨a0,a1,a2,a3,a4,a5,a6,a7,a8,a9,NU⟩
theorem zY {A0 A1 A2 A3 A4 A5 A6 A7 A8 A9 C9 DU:Prop} (a0:A0) (a1:A1) (a2:A2) (a3:A3) (a4:A4) (a5:A5) (a6:A6) (a7:A7) (a8:A8) (a9:A9) (NU:C9) (QB:DU):A0/\A1/\A2/\A3/\A4/\A5/\A6/\A7/\A8/\A9/\C9/\DU:=⟨a0,a1,a2,a3,a4,a5,a6,a7,a8,a9,NU,QB⟩
theorem W7 {A0 A1 A2 A3 A4 A5 A6 A7 A8 A9 C9 DU GY:Prop} (a0:A0) (a1:A1) (a2:A2) (a3:A3) (a4:A4) (a5:A5) (a6:A6) (a7:A7) (a8:A8) (a9:A9) (NU:C9) (QB:DU) (TQ:GY):A0/\A1/\A2/\A3/\A4/\A5/\A6/\A7/\A8/\A9/\C9/\DU/\GY:=⟨a0,a1,a2,a3,a4,a5,a6,a7,a8,a9,NU,QB,TQ⟩
theorem DH {A0 A1 A2 A3 A4 A5 A6 A7 A8 A9 C9 DU GY IP:Prop} (a0:A0) (a1:A1) (a2:A2) (a3:A3) (a4:A4) (a5:A5) (a6:A6) (a7:A7) (a8:A8) (a9:A9) (NU:C9) (QB:DU) (TQ:GY) (WV:IP):A0/\A1/\A2/\A3/\A4/\A5/\A6/\A7/\A8/\A9/\C9/\DU/\GY/\IP:=⟨a0,a1,a2,a3,a4,a5,a6,a7,a8,a9,NU,QB,TQ,WV⟩
theorem aEb {A0 A1 A2 A3 A4 A5 A6 A7 A8 A9 C9 DU GY IP MR:Prop} (a0:A0) (a1:A1) (a2:A2) (a3:A3) (a4:A4) (a5:A5) (a6:A6) (a7:A7) (a8:A8) (a9:A9) (NU:C9) (QB:DU) (TQ:GY) (WV:IP) (a14:MR):A0/\A1/\A2/\A3/\A4/\A5/\A6/\A7/\A8/\A9/\C9/\DU/\GY/\IP/\MR:=⟨a0,a1,a2,a3,a4,a5,a6,a7,a8,a9,NU,QB,TQ,WV,a14⟩
theorem aAN {A0 A1 A2 A3 A4 A5 A6 A7 A8 A9 C9 DU GY IP MR P5:Prop} (a0:A0) (a1:A1) (a2:A2) (a3:A3) (a4:A4) (a5:A5) (a6:A6) (a7:A7) (a8:A8) (a9:A9) (NU:C9) (QB:DU) (TQ:GY) (WV:IP) (a14:MR) (a15:P5):A0/\A1/\A2/\A3/\A4/\A5/\A6/\A7/\A8/\A9/\C9/\DU/\GY/\IP/\MR/\P5:=⟨a0,a1,a2,a3,a4,a5,a6,a7,a8,a9,NU,QB,TQ,WV,a14,a15⟩
theorem aJk {A0 A1 A2 A3 A4 A5 A6 A7 A8 A9 C9 DU GY IP MR P5 UM:Prop} (a0:A0) (a1:A1) (a2:A2) (a3:A3) (a4:A4) (a5:A5) (a6:A6) (a7:A7) (a8:A8) (a9:A9) (NU:C9) (QB:DU) (TQ:GY) (WV:IP) (a14:MR) (a15:P5) (a16:UM):A0/\A1/\A2/\A3/\A4/\A5/\A6/\A7/\A8/\A9/\C9/\DU/\GY/\IP/\MR/\P5/\UM:=⟨a0,a1,a2,a3,a4,a5,a6,a7,a8,a9,NU,QB,TQ,WV,a14,a15,a16⟩
theorem aNW {A0 A1 A2 A3 A4 A5 A6 A7 A8 A9 C9 DU GY IP MR P5 UM Z6:Prop} (a0:A0) (a1:A1) (a2:A2) (a3:A3) (a4:A4) (a5:A5) (a6:A6) (a7:A7) (a8:A8) (a9:A9) (NU:C9) (QB:DU) (TQ:GY) (WV:IP) (a14:MR) (a15:P5) (a16:UM) (a17:Z6):A0/\A1/\A2/\A3/\A4/\A5/\A6/\A7/\A8/\A9/\C9/\DU/\GY/\IP/\MR/\P5/\UM/\Z6:=⟨a0,a1,a2,a3,a4,a5,a6,a7,a8,a9,NU,QB,TQ,WV,a14,a15,a16,a17⟩
theorem aPp {A0 A1 A2 A3 A4 A5 A6 A7 A8 A9 C9 DU GY IP MR P5 UM Z6 A18:Prop} (a0:A0) (a1:A1) (a2:A2) (a3:A3) (a4:A4) (a5:A5) (a6:A6) (a7:A7) (a8:A8) (a9:A9) (NU:C9) (QB:DU) (TQ:GY) (WV:IP) (a14:MR) (a15:P5) (a16:UM) (a17:Z6) (a18:A18):A0/\A1/\A2/\A3/\A4/\A5/\A6/\A7/\A8/\A9/\C9/\DU/\GY/\IP/\MR/\P5/\UM/\Z6/\A18:=⟨a0,a1,a2,a3,a4,a5,a6,a7,a8,a9,NU,QB,TQ,WV,a14,a15,a16,a17,a18⟩
theorem aNX {A0 A1 A2 A3 A4 A5 A6 A7 A8 A9 C9 DU GY IP MR P5 UM Z6 A18 A19 A20:Prop} (a0:A0) (a1:A1) (a2:A2) (a3:A3) (a4:A4) (a5:A5) (a6:A6) (a7:A7) (a8:A8) (a9:A9) (NU:C9) (QB:DU) (TQ:GY) (WV:IP) (a14:MR) (a15:P5) (a16:UM) (a17:Z6) (a18:A18) (a19:A19) (a20:A20):A0/\A1/\A2/\A3/\A4/\A5/\A6/\A7/\A8/\A9/\C9/\DU/\GY/\IP/\MR/\P5/\UM/\Z6/\A18/\A19/\A20:=⟨a0,a1,a2,a3,a4,a5,a6,a7,a8,a9,NU,QB,TQ,WV,a14,a15,a16,a17,a18,a19,a20⟩
theorem aXp {A0 A1 A2 A3 A4 A5 A6 A7 A8 A9 C9 DU GY IP MR P5 UM Z6 A18 A19 A20 A21:Prop} (a0:A0) (a1:A1) (a2:A2) (a3:A3) (a4:A4) (a5:A5) (a6:A6) (a7:A7) (a8:A8) (a9:A9) (NU:C9) (QB:DU) (TQ:GY) (WV:IP) (a14:MR) (a15:P5) (a16:UM) (a17:Z6) (a18:A18) (a19:A19) (a20:A20) (a21:A21):A0/\A1/\A2/\A3/\A4/\A5/\A6/\A7/\A8/\A9/\C9/\DU/\GY/\IP/\MR/\P5/\UM/\Z6/\A18/\A19/\A20/\A21:=⟨a0,a1,a2,a3,a4,a5,a6,a7,a8,a9,NU,QB,TQ,WV,a14,a15,a16,a17,a18,a19,a20,a21⟩
theorem aPq {A0 A1 A2 A3 A4 A5 A6 A7 A8 A9 C9 DU GY IP MR P5 UM Z6 A18 A19 A20 A21 A22:Prop} (a0:A0) (a1:A1) (a2:A2) (a3:A3) (a4:A4) (a5:A5) (a6:A6) (a7:A7) (a8:A8) (a9:A9) (NU:C9) (QB:DU) (TQ:GY) (WV:IP) (a14:MR) (a15:P5) (a16:UM) (a17:Z6) (a18:A18) (a19:A19) (a20:A20) (a21:A21) (a22:A22):A0/\A1/\A2/\A3/\A4/\A5/\A6/\A7/\A8/\A9/\C9/\DU/\GY/\IP/\MR/\P5/\UM/\Z6/\A18/\A19/\A20/\A21/\A22:=⟨a0,a1,a2,a3,a4,a5,a6,a7,a8,a9,NU,QB,TQ,WV,a14,a15,a16,a17,a18,a19,a20,a21,a22⟩
theorem aXq {A0 A1 A2 A3 A4 A5 A6 A7 A8 A9 C9 DU GY IP MR P5 UM Z6 A18 A19 A20 A21 A22 A23:Prop} (a0:A0) (a1:A1) (a2:A2) (a3:A3) (a4:A4) (a5:A5) (a6:A6) (a7:A7) (a8:A8) (a9:A9) (NU:C9) (QB:DU) (TQ:GY) (WV:IP) (a14:MR) (a15:P5) (a16:UM) (a17:Z6) (a18:A18) (a19:A19) (a20:A20) (a21:A21) (a22:A22) (a23:A23):A0/\A1/\A2/\A3/\A4/\A5/\A6/\A7/\A8/\A9/\C9/\DU/\GY/\IP/\MR/\P5/\UM/\Z6/\A18/\A19/\A20/\A21/\A22/\A23:=⟨a0,a1,a2,a3,a4,a5,a6,a7,a8,a9,NU,QB,TQ,WV,a14,a15,a16,a17,a18,a19,a20,a21,a22,a23⟩
end Go.Proofs.YtfiipaodjpiooaaGreatDoor

