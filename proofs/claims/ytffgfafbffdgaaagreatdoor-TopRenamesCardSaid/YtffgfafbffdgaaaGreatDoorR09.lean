/- Lemmas and contracts of functions, several texts in one. -/
import Derived.Test.YtffgfafbffdgaaaGreatDoorR08
import Derived.Shelf.Sort.Plain
import Derived.Shelf.Slices.In.SortNone
set_option maxRecDepth 100000
set_option maxHeartbeats 4000000
set_option linter.all false
namespace Go.Proofs.YtffgfafbffdgaaaGreatDoor
open Go.RowKit
variable {l:List ByteArray}{i b sz k:Nat}{H H':aA}
def iD (n:Int):List D:=[i64 n]
def pD (p:Int×Int):List D:=[i64 p.1,i64 p.2]
theorem bT {l:List Int}(h:i<l.length):(l.map iD)[i]?=some [.val (.int .i64 l[i])]:=by rw[bg,az h];rfl
def bN (n a:Int):Prop:=0<=a/\a<n
instance (n a:Int):Decidable (bN n a):=by unfold bN;exact inferInstance
structure bp where
 k:Int
 m:Bool
 r:Int
 e:Int
 ar:List Int
def bS (t:bp):List D:=[i64 t.k,.val (.bool t.m),i64 t.r,i64 t.e,.seq 1 (t.ar.map iD)]
def bY (ts:List bp) (a:Int):bp:=ts.getD a.toNat ⟨0,false,0,0,[]⟩
def pI (ts:List bp):Prop:=∀(i:Nat) (h:i<ts.length),(ts[i].k=3->0<=ts[i].e/\ts[i].e<i)/\∀x∈ts[i].ar,0<=x/\x<i
theorem qM {ts:List bp}{a:Int}(h:bN ts.length a):∃h',bY ts a=ts[a.toNat]'h':=by
 unfold bN at h;refine⟨by omega,?_⟩;unfold bY;rw[gZ,az (by omega)];rfl
theorem qx {ts:List bp}(j:pI ts){a:Int}(h:bN ts.length a):((bY ts a).k=3->0<=(bY ts a).e/\(bY ts a).e<a)/\∀x∈(bY ts a).ar,0<=x/\x<a:=by
 obtain⟨c,f⟩:=qM h;rw[f];have:=j a.toNat c;unfold bN at h;refine⟨λg=>?_,λx m=>?_⟩
 ·have:=this.1 g;omega
 ·have:=this.2 x m;omega
theorem gY {ts:List bp}{a:Int}(h:bN ts.length a):(ts.map bS)[a.toNat]?=some (bS (bY ts a)):=by
 obtain⟨c,e⟩:=qM h;rw[e,bg,az c];rfl
def bC (s:ByteArray):D:=.val (.string s)
def sD (s:ByteArray):List D:=[bC s]
def cH (n:Nat):Prop:=n<=140737488351232
theorem eA {a b:ByteArray}:a.toList=b.toList↔a=b:=by
 constructor
 ·intro h
  rw[ByteArray.toList_eq,ByteArray.toList_eq] at h;obtain⟨⟨x⟩⟩:=a;obtain⟨⟨y⟩⟩:=b;simp only at h;rw[h]
 ·rintro rfl;rfl
theorem bZ {a:Type}{f:a->List D}{l:List a}(h:i<l.length):(l.map f)[i]?=some (f l[i]):=by rw[bg,az h];rfl
theorem IP {c:Type}{l m:List c}(h:l.take i=m.take i)(h1:i<l.length)(h2:i<m.length)(a:l[i]=m[i]):l.take (i+1)=m.take (i+1):=by rw[bw h1,bw h2,h,a]
theorem G0 (p:Prop):∃b,p=b/\((b=True/\p)\/(b=False/\¬p)):=⟨p,rfl,by by_cases h:p <;> simp [h]⟩
theorem fg (h:i<l.length):(l.map sD)[i]?=some [.val (.string l[i])]:=by rw[bg,az h];rfl
theorem mz.len:∀{ds a:List D},mz H H' ds a->ds.length=a.length
 |[],[],_=>rfl
 |d::ds,e::a,h=>by rw[bx,bx,mz.len h.2]
 |[],_::_,h=>h.elim
 |_::_,[],h=>h.elim
theorem mz.at {w:World}(c:eF w H'):∀{ds a:List D}{o:Nat},mz H H' ds a->bU w H'.others b o ds->bU w H.others b o a
 |[],[],_,_,h=>by simp only[bU] at h ⊢
 |d::ds,e::a,o,hv,h=>by
  simp only[bU] at h ⊢;obtain⟨⟨u,h1,h2,h3⟩,h4⟩:=h;exact⟨⟨u,h1,h2,hv.1 w u c h3⟩,mz.at c hv.2 h4⟩
 |[],_::_,_,hv,_=>hv.elim
 |_::_,[],_,hv,_=>hv.elim
def wg (H H':aA):List (List D)->List (List D)->Prop
 |[],[]=>True
 |d::ds,e::es=>mz H H' d e/\wg H H' ds es
 |_,_=>False
theorem wg.len:∀{ds a:List (List D)},wg H H' ds a->ds.length=a.length
 |[],[],_=>rfl
 |d::ds,e::a,h=>by rw[bx,bx,wg.len h.2]
 |[],_::_,h=>h.elim
 |_::_,[],h=>h.elim
theorem wg.at {w:World}(c:eF w H'):∀{ds a:List (List D)}{o:Nat},wg H H' ds a->cK w H'.others b sz o ds->cK w H.others b sz o a
 |[],[],_,_,h=>by simp only[cK] at h ⊢
 |d::ds,e::a,o,hv,h=>by
  simp only[cK] at h ⊢;exact⟨hv.1.len▸h.1,hv.1.at c h.2.1,wg.at c hv.2 h.2.2⟩
 |[],_::_,_,hv,_=>hv.elim
 |_::_,[],_,hv,_=>hv.elim
theorem tC (H:aA)(b:Nat)(x y:cY):(H.aU b x).aU b y=H.aU b y:=by
 funext c;by_cases e:c=b
 ·rw[e,aK,aK]
 ·rw[aJ e,aJ e,aJ e]
theorem xX {x:cY}(h:H b=some x):H.aU b x=H:=by
 funext c;by_cases e:c=b
 ·rw[e,aK,h]
 ·rw[aJ e]
open Tryz
theorem LB {P:Program}{f:FuncId}{us:List Value}{v:Value}(n:Gj P f)(h:∀w,Calls P f us.toArray w λe g=>e=.returned v/\w=g):aN P f (us.map .val) H λd H'=>d=.val v/\H=H':=
 And.intro n λw c js m _=>by
  have:c=us:=by
   clear h
   induction us generalizing c with
   |nil=>simpa only[fw,aT] using js
   |cons u us o=>
    simp only[cC,aT,D.is] at js
    obtain⟨_,a,rfl,rfl,j⟩:=js
    rw[o a j]
  subst this;refine(h w).mono ?_;rintro e g ⟨rfl,rfl⟩;exact⟨v,.val v,H,rfl,lN _,m,dr _ _,rfl,rfl⟩
def aBI (c:UInt8):D:=.val (.int .u8 (c.toNat:Int))
theorem Wb (s:ByteArray)(c:Int)(H:aA):aN prog 216 [.val (.string s),.val (.int .u8 c)] H λd H'=>d=i64 (firstIdx s c.toNat.toUInt8)/\H=H':=
 LB (us:=[.string s,.int .u8 c]) (jH func216 rfl rfl) λw=>aCi s c w
theorem Ym (s:ByteArray)(c:Int)(H:aA):aN prog 152 [.val (.string s),.val (.int .u8 c)] H λd H'=>d=i64 (firstIdx s c.toNat.toUInt8)/\H=H':=by
 refine dO func152 ntmps152 results152 λf e Q a=>?_;refine t0 ?_;intro U Y O C;refine(Wb s c _).q ?_;refine u0 a ?_;exact⟨_,aF _,rfl⟩
def om (p:UInt8->Bool):List D:=(List.range 256).map λk=>.val (.bool (p (UInt8.ofNat k)))
theorem jy (p:UInt8->Bool):(om p).length=256:=by unfold om;rw[aS,tL]
theorem Ax (p:UInt8->Bool)(h:k<256):(om p)[k]?=some (.val (.bool (p (UInt8.ofNat k)))):=by unfold om;rw[bg,List.getElem?_range h];rfl
theorem Lw (p:UInt8->Bool)(c:UInt8):(om p).drop c.toNat=.val (.bool (p c))::(om p).drop (c.toNat+1):=by
 have h:c.toNat<256:=c.toNat_lt;rw[cL (by rw[jy];exact h)];have e:=Ax p h;rw[az (by rw[jy];exact h),zM] at e;rw[Option.some.inj e]
theorem Pp (p:UInt8->Bool)(c:UInt8):(om p).set c.toNat (.val (.bool true))=om λx=>p x||x==c:=by
 apply np;intro k;by_cases h:k<256
 ·rw[Ax _ h,zO,Ax _ h]
  by_cases e:c.toNat=k
  ·subst e
   rw[aD rfl,aD (by rw[jy];exact h),zM];simp
  ·rw[aC e]
   have:(UInt8.ofNat k==c)=false:=by
    rw[beq_eq_false_iff_ne];intro a;apply e;rw[<-a,pN,zP h]
   rw[this,Bool.or_false]
 ·rw[lu (by rw[mA,jy];omega),lu (by rw[jy];omega)]
theorem Po (p:UInt8->Bool)(c:UInt8):(om p).take c.toNat++[.val (.bool true)]++(om p).drop (c.toNat+1)=om λx=>p x||x==c:=by rw[<-Pp,List.set_eq_take_append_cons_drop,aD (by rw[jy];exact c.toNat_lt),bE];rfl
theorem zt (p:UInt8->Bool)(c:UInt8)(H:aA):aN prog 293 [.rp (om p),aBI c] H λd H'=>d=.val (.bool (p c))/\H=H':=by
 have g:((c.toNat:Nat):Int).toNat=c.toNat:=aX _;have e:(0:Int)<=((c.toNat:Nat):Int):=aZ _;have f:((c.toNat:Nat):Int)<256:=by have:=c.toNat_lt;omega
 have h:=Lw p c;refine dO func293 ntmps293 results293 λm j Q a=>?_;refine ur a (eP @aBI.eq_1 g e f h @jZ) trivial ?_;exact⟨_,aF _,rfl⟩
theorem LU (l:List UInt8)(n:Nat)(h:(dg l).size=n):(dg l).extract 1 n=dg (l.drop 1):=by
 apply ByteArray.ext;rw[zE];subst h;apply gm;rw[Array.toList_extract,gM,gM,gx,List.extract,bK (by rw[gd];exact bh _)]
theorem LV (l:List UInt8)(n:Nat):(dg l).extract 0 n=dg (l.take n):=by
 apply ByteArray.ext;rw[zE];apply gm;rw[Array.toList_extract,gM,gM];simp [List.extract]
theorem Sw (cs:List UInt8)(H:aA)(hc:∀c∈cs,c.toNat<128)(hl:cs.length<1000000):aN prog 219 [.val (.string (dg cs))] H λd H'=>d=.eO [.agg (om λc=>cs.contains c),.val (.bool true)]/\H=H':=by
 have J:=gx cs;have w:∀l:List D,l++[]=l:=bz;refine dO func219 ntmps219 results219 λS P Q L=>?_;refine t0 ?_;intro U Y O C;intro f m;refine Y _ ?_;refine tz ?_;refine aO cs.length (λi s=>s.df=[]/\s.fr 0=.val (.string (dg cs))/\s.fr 2=.ep f 0 256 0 0/\s.fr 4=i64 i/\s.H=H.aU f (.row 317 0 256 [om λc=>(cs.take i).contains c])) ⟨rfl,rfl,rfl,rfl,?_⟩ ?_
 ·rfl
 rintro i s R ⟨A,o,h,u,j⟩;have M:=aX i;have v:=aZ i;by_cases a:i<cs.length
 case neg=>
  have E:=lF i cs.length;rw[bK (by omega)] at j;have G:s.H f=some (.row 317 0 256 [om λc=>cs.contains c]):=by rw[j];exact aK _ _ _
  have e:=jy λc=>cs.contains c;have B:List.drop 256 (om λc=>cs.contains c)=[]:=pK (by rw[jy];exact bh _);refine ur L (bG o h u E J G e (av B w)) (av h e) ?_;refine⟨H,?_,rfl⟩;rw[j];exact aQ (aQ (aF _) m) m
 have g:(i:Int)<(cs.length:Int):=by omega
 have E:((i:Int)<(cs.length:Int))=True:=aG g;have K:=wS i;have I:cs[i]?=some cs[i]:=az a;obtain⟨c,n⟩:=oX cs[i];have r:=hc cs[i] (ao a);rw[<-n] at I r;have N:=nF ((c.toNat:Int)≥128);have z:((c.toNat:Nat):Int).toNat=c.toNat:=aX _;have y:(0:Int)<=((c.toNat:Nat):Int):=aZ _;have t:((c.toNat:Nat):Int)<256:=by omega
 have G:s.H f=some (.row 317 0 256 [om λc=>(cs.take i).contains c]):=by rw[j];exact aK _ _ _
 have e:=jy λc=>(cs.take i).contains c;refine tq (bG o h u E N J I (bG M v g G e z y (bQ t @jZ K))) ?_;intro U Y O C;refine⟨by omega,?_⟩;refine nx ?_;refine tq (cA o h u K) ?_;intro U Y O C;refine⟨a,A,o,h,rfl,?_⟩;show s.H.aU f _=_;rw[Po,j,tC,bw a];refine ai (λp=>H.aU f (.row 317 0 256 [om p])) (funext λx=>?_);rw[List.contains_append,n];simp;rfl
def TrR (p:UInt8->Bool) (l:List UInt8) (k:Nat):Prop:=k<=l.length/\(∀c∈l.drop k,p c=true)/\(0<k->∀c,l[k - 1]?=some c->p c=false)
theorem UN (p:UInt8->Bool)(l:List UInt8)(H:aA)(hl:l.length<=140737488351232):aN prog 221 [.val (.string (dg l)),.rp (om p)] H λd H'=>(∃k,d=.val (.string (dg (l.take k)))/\TrR p l k)/\H=H':=by
 refine dO func221 ntmps221 results221 λN L Q A=>?_;refine tz ?_;refine aO l.length (λi s=>s.df=[]/\s.fr 0=.val (.string (dg (l.take (l.length - i))))/\s.fr 1=.rp (om p)/\s.H=H/\∀c∈l.drop (l.length - i),p c=true) ⟨rfl,by rw[tP,dI] <;> rfl,rfl,rfl,by rw[tP,List.drop_length];intro c m;cases m⟩ ?_;rintro i s M ⟨v,e,o,u,n⟩;obtain⟨k,K⟩:=oX (l.length - i);rw[<-K] at e n;have y:(dg (l.take k)).size=k:=by rw[gx,bX];omega
 by_cases x:0<k
 case neg=>
  have z:=nF ((k:Int)>0);refine ur A (cA e o y z) e ?_;exact⟨_,aF _,⟨⟨k,rfl,by omega,n,λh=>absurd h x⟩,u.symm⟩⟩
 have z:=nT ((k:Int)>0);have J:IntKind.i64.wrap ((k:Int) - 1)=((k - 1:Nat):Int):=by rw[aP (by omega)];omega
 have I:((k - 1:Nat):Int).toNat=k - 1:=aX _;have g:(0:Int)<=((k - 1:Nat):Int):=aZ _;have f:k - 1<l.length:=by omega
 have G:(l.take k)[k - 1]?=some l[k - 1]:=by rw[List.getElem?_take_of_lt (by omega),az f]
 have j:l[k - 1]?=some l[k - 1]:=az f;obtain⟨c,m⟩:=oX (l[k - 1]);rw[<-m] at G j;refine tq (bG e o y z J G I g) ?_;intro U Y O C;refine(zt p c _).q ?_;cases hpc:p c
 ·refine ur A e e ?_
  exact⟨_,aF _,⟨⟨k,rfl,by omega,n,λ_ B a=>by rw[j] at a;injection a with a;rw[<-a];exact hpc⟩,u.symm⟩⟩
 ·have E:=LV (l.take k) (k - 1)
  rw[wT,mZ (by omega)] at E;have r:(0:Int)<=((k - 1:Nat):Int):=g;have t:((k - 1:Nat):Int)<=(k:Int):=by omega
  refine tq (ej e y J I r t E) ?_;intro U Y O C;have w:i<l.length:=by omega
  refine⟨w,v,?_,o,u,λB a=>?_⟩
  ·rw[show l.length - (i+1)=k - 1 by omega];rfl
  ·rw[show l.length - (i+1)=k - 1 by omega,cL f,show k - 1+1=k by omega] at a
   rcases bV.1 a with h|h
   ·rw[h,<-m];exact hpc
   ·exact n B h
def TrL (p:UInt8->Bool) (l:List UInt8) (k:Nat):Prop:=k<=l.length/\(∀c∈l.take k,p c=true)/\∀c,l[k]?=some c->p c=false
theorem UM (p:UInt8->Bool)(l:List UInt8)(H:aA)(hl:l.length<=140737488351232):aN prog 220 [.val (.string (dg l)),.rp (om p)] H λd H'=>(∃k,d=.val (.string (dg (l.drop k)))/\TrL p l k)/\H=H':=by
 refine dO func220 ntmps220 results220 λK I Q A=>?_;refine tz ?_;refine aO l.length (λi s=>s.df=[]/\s.fr 0=.val (.string (dg (l.drop i)))/\s.fr 1=.rp (om p)/\s.H=H/\∀c∈l.take i,p c=true) ⟨rfl,rfl,rfl,rfl,by intro c e;cases e⟩ ?_;rintro i s J ⟨v,j,n,u,w⟩;have m:(dg (l.drop i)).size=l.length - i:=by rw[gx,gd]
 by_cases g:i<l.length
 case neg=>
  have z:=nF (((l.length - i:Nat):Int)>0);refine ur A (cA j n m z) j ?_;exact⟨_,aF _,⟨⟨i,rfl,by omega,w,λc e=>by rw[lu (by omega)] at e;cases e⟩,u.symm⟩⟩
 have z:=nT (((l.length - i:Nat):Int)>0);have f:l[i]?=some l[i]:=az g;have G:(l.drop i)[0]?=some l[i]:=by rw[nn];exact f
 obtain⟨c,e⟩:=oX l[i];rw[<-e] at G f;have o:(0:Int)<=0:=kJ _;refine tq (eP j n m z G o) ?_;intro U Y O C;refine(zt p c _).q ?_;cases hpc:p c
 ·refine ur A j j ?_
  exact⟨_,aF _,⟨⟨i,rfl,by omega,w,λB a=>by rw[f] at a;injection a with a;rw[<-a];exact hpc⟩,u.symm⟩⟩
 ·have E:=LU (l.drop i) _ m
  rw[pP] at E;have r:(0:Int)<=1:=by decide
  have t:(1:Int)<=((l.length - i:Nat):Int):=by omega
  have x:(1:Int).toNat=1:=rfl;have y:((l.length - i:Nat):Int).toNat=l.length - i:=aX _;refine tq (ej j m x y r t E) ?_;intro U Y O C;refine⟨g,v,rfl,n,u,λB a=>?_⟩;rw[bw g] at a;rcases bB.1 a with h|h
  ·exact w B h
  ·rw[bM.1 h,<-e];exact hpc
def lE (c:UInt8):Bool:=decide (48<=c.toNat)&&decide (c.toNat<=57)
def rX (c:UInt8):Bool:=(decide (97<=c.toNat)&&decide (c.toNat<=122))||(decide (65<=c.toNat)&&decide (c.toNat<=90))||decide (c.toNat=95)
def oU (l:List UInt8):Bool:=decide (1<=l.length)&&decide (l.length<=255)&& !lE (l.headD 0)&&l.all λc=>rX c||lE c
def eY (s:ByteArray):Bool:=oU s.data.toList
def N4:List UInt8:=[48,49,50,51,52,53,54,55,56,57]
def WZ:List UInt8:=[95,97,98,99,100,101,102,103,104,105,106,107,108,109,110,111,112,113,114,115,116,117,118,119,120,121,122,65,66,67,68,69,70,71,72,73,74,75,76,77,78,79,80,81,82,83,84,85,86,87,88,89,90,48,49,50,51,52,53,54,55,56,57]
def Gw (f:UInt8->Bool):Bool:=(List.range 256).all λk=>f (UInt8.ofNat k)
theorem Bp {f:UInt8->Bool}(h:Gw f=true)(c:UInt8):f c=true:=by
 have:=dK.1 h c.toNat (ib.2 c.toNat_lt);rwa[zM] at this
theorem Rm (c:UInt8):decide (firstIdx (dg N4) c<0)= !lE c:=by
 have h:Gw (λc=>decide (firstIdx (dg N4) c<0)== !lE c)=true:=by decide+kernel
 simpa using Bp h c
theorem W0 (c:UInt8):WZ.contains c=(rX c||lE c):=by
 have h:Gw (λc=>WZ.contains c==(rX c||lE c))=true:=by decide+kernel
 simpa using Bp h c
theorem qJ:(⟨#[]⟩:ByteArray).toList=[]:=jC []
theorem IT {p:UInt8->Bool}{l:List UInt8}{j:Nat}(hk:TrR p l k)(hj:TrL p (l.take k) j):(l.take k).drop j=[]↔(l.all p)=true:=by
 obtain⟨e,o,r⟩:=hk;obtain⟨m,n,s⟩:=hj;rw[bX,mZ e] at m;rw[dK];constructor
 ·intro h c hc
  have g:j=k:=by
   have:=ai List.length h;rw[gd,bX,mZ e] at this;simp at this;omega
  rw[<-ga k l] at hc;rcases bB.1 hc with hc|hc
  ·exact n c (by rw[g,bK (by rw[bX];omega)];exact hc)
  ·exact o c hc
 ·intro h
  by_cases f:0<k
  ·have a:k - 1<l.length:=by omega
   have:=r f _ (az a);rw[h _ (ao a)] at this;cases this
  ·have:k=0:=by omega
   subst this;simp
theorem QK (l:List UInt8)(H:aA)(hl:l.length<=140737488351232):aN prog 153 [.val (.string (dg l)),.val (.string (dg WZ))] H λd H'=>(∃m:List UInt8,d=.val (.string (dg m))/\(m=[]↔(l.all λc=>rX c||lE c)=true))/\H=H':=by
 have g:(λc=>WZ.contains c)=λc=>rX c||lE c:=funext W0;have t:(dg WZ).size=63:=gx _;have o:((dg WZ).toList=(⟨#[]⟩:ByteArray).toList)=False:=aI (by rw[jC,qJ];decide);have u:((63:Int)=1)=False:=aI (by decide);by_cases e:l=[]
 ·have n:((dg l).toList=(⟨#[]⟩:ByteArray).toList)=True:=aG (by rw[jC,qJ];exact e)
  refine dO func153 ntmps153 results153 λv p Q a=>?_;refine ur a (av o n) trivial ?_;exact⟨_,aF _,⟨l,rfl,by subst e;simp⟩,rfl⟩
 have n:((dg l).toList=(⟨#[]⟩:ByteArray).toList)=False:=aI (by rw[jC,qJ];exact e);refine dO func153 ntmps153 results153 λv p Q a=>?_;refine tq (cA o n u t) ?_;intro U Y O C;refine(Sw WZ _ (by decide) (by decide)).q ?_;rw[g];have h:=jy λc=>rX c||lE c;refine tq h ?_;intro U Y O C;intro w f;refine Y _ ?_;refine cm 5 f ?_;refine t0 ?_;intro U Y O C;refine(UN _ l _ hl).mono ?_;rintro d _ ⟨⟨k,rfl,s⟩,rfl⟩;refine t0 ?_;intro U Y O C;refine(UM _ (l.take k) _ (by rw[bX];omega)).mono ?_;rintro d _ ⟨⟨j,rfl,r⟩,rfl⟩;refine u0 a ?_;exact⟨_,aF _,⟨_,rfl,IT s r⟩,rfl⟩
theorem OQ {l:List UInt8}(c:UInt8)(t:List UInt8)(h:l=c::t)(hl:l.length<=255)(b:Bool)(m:List UInt8)(hm:m=[]↔(l.all λc=>rX c||lE c)=true):oU l=(!lE c&&decide (m=[])):=by
 unfold oU;have a:decide (1<=l.length)=true:=by rw[h];simp
 have f:decide (l.length<=255)=true:=by simp [hl]
 have g:l.headD 0=c:=by rw[h];rfl
 rw[a,f,g,cV,cV];congr 1;cases e:l.all λc=>rX c||lE c
 ·rw[eq_comm,af];intro h;rw[hm.1 h] at e;cases e
 ·rw[eq_comm,ah (hm.2 e)]
theorem Wa (l:List UInt8)(H:aA)(hl:l.length<=140737488351232):aN prog 68 [.val (.string (dg l))] H λd H'=>d=.val (.bool (oU l))/\H=H':=by
 have r:(dg l).size=l.length:=gx _;cases l with
 |nil=>
  have j:((dg []).toList=(⟨#[]⟩:ByteArray).toList)=True:=aG (by rw[jC,qJ])
  refine dO func68 ntmps68 results68 λx v Q a=>?_
  refine ur a j trivial ?_
  exact⟨_,aF _,rfl,rfl⟩
 |cons c t=>
  obtain⟨l,f⟩:=oX (c::t)
  rw[<-f] at r hl ⊢
  have j:((dg l).toList=(⟨#[]⟩:ByteArray).toList)=False:=aI (by rw[jC,qJ,f];intro h;cases h)
  by_cases e:l.length<=255
  case neg=>
   have s:=nF ((l.length:Int)<=255);have n:oU l=false:=by unfold oU;rw[af e];simp
   rw[n];refine dO func68 ntmps68 results68 λx v Q a=>?_;refine ur a (bQ j r s) trivial ?_;exact⟨_,aF _,rfl⟩
  have s:=nT ((l.length:Int)<=255)
  have y:l[0]?=some c:=by rw[f];rfl
  have o:(0:Int)<=0:=kJ _
  refine dO func68 ntmps68 results68 λx v Q a=>?_
  refine tq (cw j r s y o) ?_;intro U Y O C
  refine(Ym (dg N4) (c.toNat:Int) _).q ?_
  have p:((c.toNat:Nat):Int).toNat.toUInt8=c:=by rw[aX];exact zM
  rw[p]
  have g:=Rm c
  cases hdc:lE c
  ·rw[hdc] at g
   have u:(firstIdx (dg N4) c<0)=True:=aG (rD g)
   refine tq u ?_;intro U Y O C
   refine(QK l _ hl).mono ?_
   rintro d _ ⟨⟨m,rfl,z⟩,rfl⟩
   have w:=OQ c t f e true m z
   rw[hdc] at w
   have A:((dg m).toList=(⟨#[]⟩:ByteArray).toList)=(m=[]):=by rw[jC,qJ]
   refine nx ?_
   refine ur a A trivial ?_
   exact⟨_,aF _,by rw[w] <;> rfl,rfl⟩
  ·rw[hdc] at g
   have u:(firstIdx (dg N4) c<0)=False:=aI (of_decide_eq_false g)
   have n:oU l=false:=by unfold oU;rw[show l.headD 0=c by rw[f] <;> rfl,hdc];simp
   refine nx ?_
   refine ur a u trivial ?_
   exact⟨_,aF _,by rw[n],rfl⟩
theorem VC (p:Prop):∃b,p=b/\((b=True/\p)\/(b=False/\¬p)):=⟨p,rfl,by by_cases h:p <;> simp [h]⟩
theorem La {l:List UInt8}{c:UInt8}(hg:l[i]?=some c)(h:rX c=false)(h2:lE c=false\/i=0):oU l=false:=by
 unfold oU;rcases h2 with h2|h2
 ·have:(l.all λc=>rX c||lE c)=false:=by
   rw[List.all_eq_false];exact⟨c,eh hg,by rw[h,h2];decide⟩
  rw[this,fq]
 ·subst h2
  cases hd:lE c
  ·have:(l.all λc=>rX c||lE c)=false:=by
    rw[List.all_eq_false];exact⟨c,eh hg,by rw[h,hd];decide⟩
   rw[this,fq]
  ·have:l.headD 0=c:=by cases l with
    |nil=>cases hg
    |cons a t=>injection hg
   rw[this,hd];simp
theorem HZ {l:List UInt8}(h:∀c∈l,(rX c||lE c)=true)(h2:0<l.length->lE (l.headD 0)=false):oU l=(decide (1<=l.length)&&decide (l.length<=255)):=by
 unfold oU;have:(l.all λc=>rX c||lE c)=true:=dK.2 h;rw[this,fu];by_cases a:0<l.length
 ·rw[h2 a,jW,fu]
 ·rw[af (by omega)];simp
theorem S6 (l : List UInt8)(H : aA)(hl : l.length <= 140737488351232) : aN prog 5 [.val (.string (dg l))] H λd H' => d = .val (.bool (oU l)) /\ H = H' := by
  have T : (dg l).size = l.length := gx _;refine dO func5 ntmps5 results5 λw0 g0 Q w => ?_;refine tz ?_;refine aO l.length (λi s => s.df = [] /\ s.fr 0 = .val (.string (dg l)) /\ s.fr 3 = i64 i /\ s.H = H /\ (∀ c ∈ l.take i, (rX c || lE c) = true) /\ (0 < i -> lE (l.headD 0) = false)) ⟨rfl, rfl, rfl, rfl, (by intro c n; cases n), λh => absurd h (by omega)⟩ ?_;rintro i s hi ⟨e, o, E, r, R, hd⟩;have u := aX i;have G := aZ i;by_cases f : i < l.length
  case neg =>
    have v := lF i l.length;rw [bK (by omega)] at R;have m := HZ R λh => hd (by omega);have q1 : ((l.length : Int) ≥ 1) = (1 <= l.length) := propext ⟨λh => by omega, λh => by omega⟩;have q2 : ((l.length : Int) <= 255) = (l.length <= 255) := propext ⟨λh => by omega, λh => by omega⟩;by_cases g : 1 <= l.length
    · have q3 : (1 <= l.length) = True := aG g
      refine ur w (ej o E v T q1 q2 q3) e ?_
      exact ⟨_, aF _, by rw [m, ah g, cV], r.symm⟩
    · have q3 : (1 <= l.length) = False := aI g
      refine ur w (ej o E v T q1 q2 q3) e ?_
      exact ⟨_, aF _, by rw [m, af g, dq], r.symm⟩
  have j : (i : Int) < (l.length : Int) := by omega
  have v : ((i : Int) < (l.length : Int)) = True := aG j;have w3 := wS i;have S : l[i]? = some l[i] := az f;obtain ⟨c, n⟩ := oX l[i];rw [<- n] at S;have z : (rX c || lE c) = true -> (i = 0 -> lE c = false) -> (∀ c ∈ l.take (i + 1), (rX c || lE c) = true) /\ (0 < i + 1 -> lE (l.headD 0) = false) := λh1 I => by
    refine ⟨λx u => ?_, λ_ => ?_⟩
    · rw [bw f] at u
      rcases bB.1 u with h | h
      · exact R x h
      · rw [bM.1 h, <- n]; exact h1
    · by_cases p : i = 0
      · have : l.headD 0 = c := by
          cases l with
          | nil => simp at f
          | cons a t => rw [n]; simp [p]
        rw [this]; exact I p
      · exact hd (by omega)
  have y := λh I => La S h I;rcases VC ((c.toNat : Int) ≥ 97) with ⟨_, a3, ⟨rfl, P⟩ | ⟨rfl, P⟩⟩ <;> rcases VC ((c.toNat : Int) <= 122) with ⟨_, B, ⟨rfl, A⟩ | ⟨rfl, A⟩⟩ <;> (try (exfalso; omega)) <;>
    rcases VC ((c.toNat : Int) ≥ 65) with ⟨_, a0, ⟨rfl, L⟩ | ⟨rfl, L⟩⟩ <;> (try (exfalso; omega)) <;> rcases VC ((c.toNat : Int) <= 90) with ⟨_, a1, ⟨rfl, M⟩ | ⟨rfl, M⟩⟩ <;> (try (exfalso; omega)) <;>
    rcases VC ((c.toNat : Int) = 95) with ⟨_, a2, ⟨rfl, N⟩ | ⟨rfl, N⟩⟩ <;> (try (exfalso; omega)) <;> rcases VC ((c.toNat : Int) < 48) with ⟨_, V, ⟨rfl, J⟩ | ⟨rfl, J⟩⟩ <;> (try (exfalso; omega)) <;>
    rcases VC ((c.toNat : Int) > 57) with ⟨_, Z, ⟨rfl, K⟩ | ⟨rfl, K⟩⟩ <;> (try (exfalso; omega)) <;> rcases VC ((i : Int) = 0) with ⟨_, p0, ⟨rfl, p⟩ | ⟨rfl, p⟩⟩
  all_goals (refine tq (bG o E v T S u G (bG j w3 a3 B a0 a1 a2 (bQ V Z p0))) ?_; intro U Y O C)
  all_goals first
    | exact ⟨f, e, o, rfl, r, z (by unfold rX lE; simp; omega) (by unfold lE; simp; omega)⟩
    | (refine rt w e ?_
       exact ⟨_, aF _, by rw [y (by unfold rX; simp; omega) (by unfold lE; simp; omega)], r.symm⟩)
theorem zh (s:ByteArray):∃l:List UInt8,s=dg l/\l.length=s.size:=⟨s.data.toList,by cases s;simp [dg],kW⟩
theorem xG (s:ByteArray)(H:aA)(hs:cH s.size):aN prog 68 [bC s] H λd H'=>d=.val (.bool (eY s))/\H=H':=by
 obtain⟨l,rfl,a⟩:=zh s;unfold eY;rw[gM];exact Wa l H (by rw[a];exact hs)
theorem va (s:ByteArray)(H:aA)(hs:cH s.size):aN prog 5 [bC s] H λd H'=>d=.val (.bool (eY s))/\H=H':=by
 obtain⟨l,rfl,a⟩:=zh s;unfold eY;rw[gM];exact S6 l H (by rw[a];exact hs)
def rQ (l:List ByteArray) (s:ByteArray):Nat:=l.findIdx λx=>decide (x=s)
theorem mN {s:ByteArray}:rQ l s<l.length↔s∈l:=by
 unfold rQ;rw[List.findIdx_lt_length];constructor
 ·rintro⟨x,a,e⟩;rw[<-rD e];exact a
 ·exact λh=>⟨s,h,ah rfl⟩
theorem OU {s:ByteArray}(h:i<l.length)(a:l[i]=s)(hn:∀(k:Nat) (hk:k<l.length),k<i->l[k]≠s):rQ l s=i:=by
 unfold rQ;rw[List.findIdx_eq h];exact⟨ah a,λj c=>af (hn j (by omega) c)⟩
def En (T:TypeId) (sz:Nat) (els:List (List D)) (H:aA) (d:D) (H':aA):Prop:=(d=.val (.slice none 0 0)/\els=[]/\H'=H)\/∃b o,H b=none/\d=.os b o sz 0 els.length/\H'=H.aU b (.row T o sz els)
def Qp (T:TypeId) (sz:Nat) (els:List (List D)) (d:D) (A:aA):Prop:=(A=aA.none/\d=.val (.slice none 0 0)/\els=[])\/∃b o,A=aA.none.aU b (.row T o sz els)/\d=.os b o sz 0 els.length
theorem En.ok {P:Program}{f:FuncId}{args:List D}{T:TypeId}{els:List (List D)}(h:∀H,aN P f args H (En T sz els H))(H:aA):cP P f args H (Qp T sz els):=
 wk (λa _=>h a) λa d H' g=>by
  rcases g with⟨rfl,e,rfl⟩|⟨b,o,c,rfl,rfl⟩
  ·exact⟨.none,nt _,rfl,.inl ⟨rfl,rfl,e⟩⟩
  ·exact⟨aA.none.aU b (.row T o sz els),oO c,(kI _ _ _).symm,.inr ⟨b,o,rfl,rfl⟩⟩
theorem Uc (els:List (List D))(H:aA)(hl:els.length<=1000000):aN prog 22 [.seq 1 els] H (En 9 1 els H):=by
 refine dO func22 ntmps22 results22 λy w Q n=>?_;refine t0 ?_;intro U Y O C;intro b t;refine Y _ ?_;cases b with
 |true=>
  refine u0 n ?_
  have m:els=[]:=eC λe=>Bool.noConfusion (t λp=>e (cy p))
  exact⟨H,aF _,.inl ⟨rfl,m,rfl⟩⟩
 |false=>
  refine t0 ?_;intro U Y O C
  intro h f
  refine ax (e:=9) kR rfl kR rfl G5 rfl (by decide) (aQ (aF _) f) (.inr ⟨h,0,rfl,rfl,f,aK _ _ _⟩:Gl H 9 1 [] (.os h 0 1 0 0) (H.aU h (.row 9 0 1 [])) (some h)) (new:=els) (by exact⟨rfl,rfl⟩) (by rw[dX];show(_+_) * 16<=_;omega) λd v u g a _=>?_
  refine u0 n ?_
  rw[cz] at g
  rcases g with⟨_,rfl,m⟩|⟨c,o,_,rfl,r,s⟩
  ·exact⟨H,a,.inl ⟨rfl,m,rfl⟩⟩
  ·refine⟨H.aU c (.row 9 o 1 els),λb x j=>?_,.inr ⟨c,o,r,rfl,rfl⟩⟩
   by_cases e:b=c
   ·rw[e,aK] at j;rw[e,s];exact j
   ·rw[aJ e] at j;exact a _ _ j
def Ge (H:aA) (l:List ByteArray) (d:D) (H':aA):Prop:=∃c o,d=.os c o 1 0 l.length/\H c=none/\H' c=some (.row 9 o 1 (l.map sD))
theorem Ge.gl {d:D}(h:Ge H l d H'):∃ob,Gl H 9 1 (l.map sD) d H' ob:=by
 obtain⟨c,o,a,e,f⟩:=h;exact⟨some c,.inr ⟨c,o,rfl,by rw[aS];exact a,e,f⟩⟩
theorem Ge.of {els:List (List D)}{d:D}{ob:Option Nat}(h:Gl H 9 1 els d H' ob)(g:els=l.map sD)(hl:l≠[]):Ge H l d H':=by
 subst g;rcases h with⟨_,_,h⟩|⟨c,o,_,a,e,f⟩
 ·exact absurd (by simpa using h) hl
 ·exact⟨c,o,by rw[a,aS],e,f⟩
end Go.Proofs.YtffgfafbffdgaaaGreatDoor
namespace Go.Proofs.YtffgfafbffdgaaaGreatDoor
open Go.RowKit Go.Sort
open Tryz
def aCo:Go.Shelf.Ren where
 f:=λx=>match x with
  |190=>69
  |125=>155
  |258=>154
  |128=>233
  |129=>234
  |302=>224
  |303=>225
  |304=>226
  |305=>227
  |306=>228
  |307=>229
  |308=>230
  |309=>231
  |310=>232
  |333=>297
  |329=>298
  |330=>299
  |334=>300
  |335=>301
  |336=>302
  |344=>347
  |n=>n
 t:=λx=>match x with
  |31=>22
  |3=>3
  |46=>228
  |0=>0
  |51=>238
  |53=>153
  |4=>4
  |183=>324
  |182=>323
  |131=>231
  |5=>5
  |9=>9
  |218=>392
  |222=>396
  |228=>429
  |229=>177
  |n=>n
 g:=λn=>n
theorem EP:Lays.n190 prog aCo where
 mixed:=by kernel_rfl
 f125:=func155.trans (ai some (by kernel_rfl))
 f128:=func233.trans (ai some (by kernel_rfl))
 f129:=func234.trans (ai some (by kernel_rfl))
 f190:=func69.trans (ai some (by kernel_rfl))
 f336:=func302.trans (ai some (by kernel_rfl))
 f308:=func230.trans (ai some (by kernel_rfl))
 f258:=func154.trans (ai some (by kernel_rfl))
 f302:=func224.trans (ai some (by kernel_rfl))
 f303:=func225.trans (ai some (by kernel_rfl))
 f304:=func226.trans (ai some (by kernel_rfl))
 f305:=func227.trans (ai some (by kernel_rfl))
 f306:=func228.trans (ai some (by kernel_rfl))
 f307:=func229.trans (ai some (by kernel_rfl))
 f309:=func231.trans (ai some (by kernel_rfl))
 f310:=func232.trans (ai some (by kernel_rfl))
 f333:=func297.trans (ai some (by kernel_rfl))
 f329:=func298.trans (ai some (by kernel_rfl))
 f330:=func299.trans (ai some (by kernel_rfl))
 f334:=func300.trans (ai some (by kernel_rfl))
 f335:=func301.trans (ai some (by kernel_rfl))
 f344:=func347.trans (ai some (by kernel_rfl))
 t0:=underlying0
 a0:=Tryz.isAgg0
 z0:=Tryz.sizeOf0
 v0:=Tryz.zeroValue0
 t3:=underlying3
 a3:=Tryz.isAgg3
 z3:=Tryz.sizeOf3
 v3:=Tryz.zeroValue3
 t4:=underlying4
 a4:=Tryz.isAgg4
 z4:=Tryz.sizeOf4
 v4:=Tryz.zeroValue4
 t5:=underlying5
 a5:=Tryz.isAgg5
 z5:=Tryz.sizeOf5
 v5:=Tryz.zeroValue5
 t9:=underlying9
 a9:=Tryz.isAgg9
 z9:=Tryz.sizeOf9
 v9:=Tryz.zeroValue9
 t31:=underlying22
 a31:=Tryz.isAgg22
 z31:=Tryz.sizeOf22
 v31:=Tryz.zeroValue22
 t46:=underlying228
 a46:=Tryz.isAgg228
 z46:=Tryz.sizeOf228
 v46:=Tryz.zeroValue228
 t51:=underlying238
 a51:=Tryz.isAgg238
 z51:=Tryz.sizeOf238
 v51:=Tryz.zeroValue238
 t53:=underlying153
 a53:=Tryz.isAgg153
 z53:=Tryz.sizeOf153
 v53:=Tryz.zeroValue153
 t131:=underlying231
 a131:=Tryz.isAgg231
 z131:=Tryz.sizeOf231
 v131:=Tryz.zeroValue231
 t182:=underlying323
 a182:=Tryz.isAgg323
 z182:=Tryz.sizeOf323
 v182:=Tryz.zeroValue323
 t183:=underlying324
 a183:=Tryz.isAgg324
 z183:=Tryz.sizeOf324
 v183:=Tryz.zeroValue324
 t218:=underlying392
 a218:=Tryz.isAgg392
 z218:=Tryz.sizeOf392
 v218:=Tryz.zeroValue392
 t222:=underlying396
 a222:=Tryz.isAgg396
 z222:=Tryz.sizeOf396
 v222:=Tryz.zeroValue396
 t228:=underlying429
 a228:=Tryz.isAgg429
 z228:=Tryz.sizeOf429
 v228:=Tryz.zeroValue429
 t229:=underlying177
 a229:=Tryz.isAgg177
 z229:=Tryz.sizeOf177
 v229:=Tryz.zeroValue177
def Yx (t:List UInt8):ByteArray:=⟨t.toArray⟩
theorem EB (t:List UInt8):(Yx t).toList=t:=by rw[ByteArray.toList_eq];rfl
theorem Hm (s:ByteArray):Yx s.toList=s:=eA.1 (EB _)
def E7 (l:List ByteArray):List (List UInt8):=(l.map (·.toList)).mergeSort λx y=>decide (x<=y)
def je (l:List ByteArray):List ByteArray:=(E7 l).map Yx
theorem sU (l:List ByteArray):(E7 l).length=l.length:=by unfold E7;rw[List.length_mergeSort,aS]
theorem iS (l:List ByteArray):(je l).length=l.length:=by unfold je;rw[aS,sU]
theorem Ly {l:List ByteArray}{j:Nat}(h:j<l.length):Yx ((E7 l).toArray[j]!)=(je l)[j]'(by rw[iS];exact h):=by
 have h':j<(E7 l).length:=by rw[sU];exact h
 rw[nr (E7 l).toArray j (by simpa using h')];simp [je]
theorem Ci {H:aA}{b o:Nat}{T:TypeId}{l:List ByteArray}(hb:H b=some (.row T o 1 (l.map sD))) (hl:l.length<4611686018427387904):
  aN prog 69 [.os b o 1 0 l.length] H λd H'=>d=.eO []/\H'=H.aU b (.row T o 1 ((je l).map sD)):=
 And.intro (jH func69 rfl rfl) λw vs js E _=>by
  simp only[aT] at js;obtain⟨u,_,rfl,h1,rfl⟩:=js;simp only[D.is] at h1;obtain⟨A,c,rfl,a0,h1⟩:=h1;obtain⟨cs,fr,g,xu,ir,M⟩:=E _ _ hb;rw[aS,jZ] at ir;have J:=E.lt hb;have L:∀j (hj:j<l.length),cs[o+j]?=some (.string l[j]):=λj hj=>by
   have:=(ca M j [.val (.string l[j])] (by rw[bg,az hj] <;> rfl)).2;simp only[bU,D.is] at this;obtain⟨⟨v,hv,_,rfl⟩,_⟩:=this;rw[cell_of_row _ _ _ _ _ _ g,jZ] at hv;exact hv
  by_cases V:l.length=0
  ·have Z:l=[]:=cy V
   subst Z;refine(Any.slices_Sort_string_none EP A c w).mono ?_;rintro e w' ⟨rfl,rfl⟩;have hs:je []=[]:=cy (iS []);refine⟨_,_,H,rfl,(by simp only[D.is];exact⟨[],rfl,by simp only[aT]⟩),E,dr _ _,rfl,?_⟩;funext f;by_cases G:f=b
   ·subst G;rw[aK,hb,hs]
   ·rw[aJ G]
  have hA:A=some ⟨b,o,none⟩:=by
   rcases h1 with h1|h1
   ·omega
   ·rw[h1.1];simp
  subst hA;have ye:=iS l;have N:Holds encStr w b o (l.map (·.toList)).toArray:=λj hj=>by
   have S:j<l.length:=by simpa using hj
   refine⟨?_,?_⟩
   ·rw[cell_of_row _ _ _ _ _ _ g,L j S,nr (l.map (·.toList)).toArray j hj]
    have e:(l.map (·.toList)).toArray[j]=l[j].toList:=by simp
    rw[e];show _=some (Value.string (Yx l[j].toList));rw[Hm]
   ·have:=xu.not (o+j) (by omega)
    simp only[World.frozen?,g];simp;omega
  have K:(l.map (·.toList)).length=l.length:=aS _;have z:=Any.slices_Sort_string EP b o c (l.map (·.toList)) w N J (by rw[K];exact hl);rw[K] at z;refine z.mono ?_;rintro e w' ⟨rfl,n,os,rfl⟩;obtain⟨k,m⟩:=oX ((E7 l).toArray);have P:k.size=l.length:=by rw[m];simpa using sU l
  rw[show((l.map (·.toList)).mergeSort λx y=>decide (x<=y)).toArray=k from m.symm];have r:(grow (putRow encStr (Go.Sort.ahead w n) b o k) os).heap[b]?=some (Obj.cells (putCells encStr o k cs) T fr):=by
   rw[heap_grow_old _ _ (by rw[size_putRow];exact J)];show(w.heap.modify b _)[b]?=_;rw[pb,aD rfl,g];rfl
  have s:∀f,f<w.heap.size->f≠b->(grow (putRow encStr (Go.Sort.ahead w n) b o k) os).heap[f]?=w.heap[f]?:=λf h a=>by
   rw[heap_grow_old _ _ (by rw[size_putRow];exact h)];show(w.heap.modify b _)[f]?=_;rw[pb,aC (Ne.symm a)]
  have fV:Ev H w (H.aU b (.row T o 1 ((je l).map sD))) (grow (putRow encStr (Go.Sort.ahead w n) b o k) os):=by
   refine⟨rfl,rfl,rfl,?_,λf h1 B=>?_,λf nN t' De h=>?_⟩
   ·rw[size_grow,size_putRow];exact wP _ _
   ·have a:f≠b:=λe=>by rw[e,hb] at B;cases B
    exact⟨s f h1 a,by rw[aJ a];exact B⟩
   ·by_cases a:f=b
    ·subst a
     rw[g] at h;cases h;exact⟨_,_,r,by simp [putCells]⟩
    ·exact⟨nN,De,by rw[s f (jP.1 h).1 a];exact h,rfl⟩
  refine⟨_,_,_,rfl,(by simp only[D.is];exact⟨[],rfl,by simp only[aT]⟩),?_,fV,rfl,rfl⟩;intro f y t;by_cases a:f=b
  ·subst a
   rw[aK] at t;injection t with t
   subst t;refine⟨_,fr,r,?_,?_,dV λi el p=>?_⟩
   ·rw[show(putCells encStr o k cs).size=cs.size by simp [putCells]];exact xu
   ·rw[show(putCells encStr o k cs).size=cs.size by simp [putCells],aS,ye];omega
   ·rw[bg] at p
    have I:i<l.length:=by
     rcases fv i (je l).length with h|h
     ·omega
     ·rw[lu h] at p;cases p
    rw[az (by omega)] at p;injection p with p
    subst p;refine⟨rfl,?_⟩;simp only[sD,bC,bU,D.is];refine⟨⟨_,?_,rfl,rfl⟩,trivial⟩;rw[cell_of_row _ _ _ _ _ _ r,jZ];have B:o+i<cs.size:=by omega
    have R:=Ly I;rw[<-m] at R;rw[nr k i (by omega)] at R;simp [putCells,B,P,I];exact R
  ·rw[aJ a] at t
   exact fV.jb (s f (E.lt t) a) (E f y t)
theorem MA (H:aA):aN prog 69 [.val (.slice none 0 0)] H λd H'=>d=.eO []/\H=H':=
 And.intro (jH func69 rfl rfl) λw f b c _=>by
  simp only[aT] at b;obtain⟨u,_,rfl,a,rfl⟩:=b;simp only[D.is] at a;subst a;refine(Any.slices_Sort_string_none EP none 0 w).mono ?_;rintro e g ⟨rfl,rfl⟩;exact⟨_,_,H,rfl,(by simp only[D.is];exact⟨[],rfl,by simp only[aT]⟩),c,dr _ _,rfl,rfl⟩
end Go.Proofs.YtffgfafbffdgaaaGreatDoor
namespace Go.Proofs.YtffgfafbffdgaaaGreatDoor
open Go.RowKit
variable {a b x s:ByteArray}{l:List ByteArray}{i o:Nat}
def xx (a b:ByteArray):Prop:=a.toList<b.toList
def leB (a b:ByteArray):Prop:=a.toList<=b.toList
theorem Dy (a:ByteArray):¬xx a a:=List.lt_irrefl _
theorem CX {c:ByteArray}(h:xx a b)(h2:xx b c):xx a c:=List.lt_trans h h2
theorem Lh (h:xx a b):¬xx b a:=List.lt_asymm h
theorem On (h:leB a b)(c:a≠b):xx a b:=by refine eC λe=>c (eA.1 (List.le_antisymm h e))
theorem ub:∀{l m:List ByteArray},l.Pairwise xx->m.Pairwise xx->(∀x,x∈l↔x∈m)->l=m
 |[],[],_,_,_=>rfl
 |[],b::m,_,_,h=>by have:=(h b).2 (by simp);simp at this
 |a::l,[],_,_,h=>by have:=(h a).1 (by simp);simp at this
 |a::l,b::m,h1,h2,h=>by
  rw[oa] at h1 h2;have f:a=b:=by
   have ha:=(h a).1 (by simp);have hb:=(h b).2 (by simp);rcases bV.1 ha with e|ha
   ·exact e
   rcases bV.1 hb with e|hb
   ·exact e.symm
   exact absurd (h1.1 b hb) (Lh (h2.1 a ha))
  subst f;rw[ub h1.2 h2.2 λx=>?_];constructor
  ·intro c
   have:=h1.1 x c;rcases bV.1 ((h x).1 (dH _ c)) with e|h
   ·subst e;exact absurd this (Dy _)
   ·exact h
  ·intro c
   have:=h2.1 x c;rcases bV.1 ((h x).2 (dH _ c)) with e|h
   ·subst e;exact absurd this (Dy _)
   ·exact h
def xf (acc:List ByteArray) (x:ByteArray):List ByteArray:=if acc.getLast?=some x then acc else acc++[x]
def jo (l:List ByteArray):List ByteArray:=l.foldl xf []
theorem px (l:List ByteArray)(x:ByteArray):jo (l++[x])=xf (jo l) x:=by unfold jo;rw[mX];rfl
theorem HF (acc:List ByteArray)(x:ByteArray):(xf acc x).getLast?=some x:=by
 unfold xf;split
 ·assumption
 ·simp
theorem Km (h:i<l.length):(jo (l.take (i+1))).getLast?=some l[i]:=by rw[bw h,px,HF]
theorem CD (h:i+1<l.length):jo (l.take (i+1+1))=if l[i]=l[i+1] then jo (l.take (i+1)) else jo (l.take (i+1))++[l[i+1]]:=by
 rw[bw h,px];have c:=Km (l:=l) (i:=i) (by omega);unfold xf;rw[c];simp only[iJ]
theorem oG {p:List ByteArray->Prop}(h0:p [])(h1:∀l a,p l->p (l++[a]))(l:List ByteArray):p l:=by
 rw[<-List.reverse_reverse l]
 induction l.reverse with
 |nil=>exact h0
 |cons a t c=>rw[List.reverse_cons];exact h1 _ _ c
theorem zp:x∈jo l↔x∈l:=by
 induction l using oG with
 |h0=>exact Iff.rfl
 |h1 l a f=>
  rw[px,bB,bM,<-f]
  unfold xf
  split
  ·rename_i h
   exact⟨.inl,λc=>c.elim id λe=>e▸wK h⟩
  ·rw[bB,bM]
theorem NK (l:List ByteArray):(jo l).length<=l.length:=by
 induction l using oG with
 |h0=>exact bh _
 |h1 l a c=>
  rw[px,aV]
  unfold xf
  split
  ·simp;omega
  ·rw[aV];simp;omega
theorem FH (h:l.Pairwise leB):(jo l).Pairwise xx:=by
 induction l using oG with
 |h0=>exact List.Pairwise.nil
 |h1 l a r=>
  rw[nj] at h
  have h1:=r h.1
  rw[px]
  unfold xf
  split
  ·exact h1
  ·rename_i f
   rw[nj]
   refine⟨h1,by simp,λx hx y m=>?_⟩
   rw[bM] at m
   subst m
   have n:=h.2.2 x (zp.1 hx) y (by simp)
   refine On n λp=>?_
   subst p
   apply f
   obtain⟨q,g⟩:∃q,(jo l).getLast?=some q:=by
    cases e:(jo l).getLast? with
    |none=>rw[List.getLast?_eq_none_iff] at e;rw[e] at hx;cases hx
    |some q=>exact⟨q,rfl⟩
   have k:=wK g
   have j:=h.2.2 q (zp.1 k) x (by simp)
   obtain⟨t,c⟩:=List.getLast?_eq_some_iff.1 g
   rw[c,bB,bM] at hx
   rcases hx with hx|hx
   ·rw[c,nj] at h1
    exact absurd (h1.2.2 x hx q (by simp)) j
   ·rw[g,hx]
theorem Cj (l:List ByteArray){t:List UInt8}:t∈E7 l↔t∈l.map (·.toList):=List.mem_mergeSort
theorem Lz:x∈je l↔x∈l:=by
 unfold je;rw[cD];constructor
 ·rintro⟨t,c,rfl⟩
  obtain⟨y,e,rfl⟩:=cD.1 ((Cj l).1 c);rw[Hm];exact e
 ·intro h
  exact⟨x.toList,(Cj l).2 (cD.2 ⟨x,h,rfl⟩),Hm x⟩
theorem Py (l:List ByteArray):(je l).Pairwise leB:=by
 have e:(E7 l).Pairwise λa b=>decide (a<=b)=true:=yz (λa b c e f=>by simp only[dF] at *;exact List.le_trans e f) (λa b=>by simp only[rJ,dF];exact List.le_total a b) _;unfold je;rw[rE];refine e.imp λ{a b} h=>?_;unfold leB;rw[EB,EB];simpa using h
def lL (s:ByteArray):List ByteArray->List ByteArray
 |[]=>[s]
 |x::l=>if s=x then x::l else if s.toList<x.toList then s::x::l else x::lL s l
theorem AP:∀{l:List ByteArray},x∈lL s l↔x=s\/x∈l
 |[]=>by simp [lL]
 |y::l=>by
  unfold lL;split
  ·rename_i h;subst h;simp
  ·split
   ·simp
   ·rw[bV,AP,bV]
    constructor
    ·rintro(h|h|h)
     ·exact .inr (.inl h)
     ·exact .inl h
     ·exact .inr (.inr h)
    ·rintro(h|h|h)
     ·exact .inr (.inl h)
     ·exact .inl h
     ·exact .inr (.inr h)
theorem xw:∀{l:List ByteArray},l.Pairwise xx->(lL s l).Pairwise xx
 |[],_=>by simp [lL]
 |y::l,h=>by
  unfold lL;split
  ·exact h
  ·rename_i f
   split
   ·rename_i c
    rw[oa];refine⟨λz hz=>?_,h⟩;rw[oa] at h;rcases bV.1 hz with rfl|hz
    ·exact c
    ·exact CX c (h.1 z hz)
   ·rename_i g
    rw[oa] at h ⊢;refine⟨λz hz=>?_,xw h.2⟩;rcases AP.1 hz with rfl|hz
    ·exact On g λe=>f e.symm
    ·exact h.1 z hz
theorem F9 {s:ByteArray}:∀{l:List ByteArray},(lL s l).length<=l.length+1
 |[]=>by simp [lL]
 |y::l=>by
  unfold lL;have:=@F9 s l;split
  ·simp
  ·split
   ·simp
   ·simp;omega
def jf (l:List ByteArray):List ByteArray:=l.foldl (λc x=>lL x c) []
theorem pE (l:List ByteArray)(x:ByteArray):jf (l++[x])=lL x (jf l):=by unfold jf;rw[mX];rfl
theorem fT:x∈jf l↔x∈l:=by
 induction l using oG with
 |h0=>exact Iff.rfl
 |h1 l a c=>rw[pE,AP,c,bB,bM,or_comm]
theorem pW (l:List ByteArray):(jf l).Pairwise xx:=by
 induction l using oG with
 |h0=>exact List.Pairwise.nil
 |h1 l a c=>rw[pE];exact xw c
theorem qY (l:List ByteArray):(jf l).length<=l.length:=by
 induction l using oG with
 |h0=>exact bh _
 |h1 l a c=>rw[pE,aV,eE];exact ma F9 (by omega)
theorem AY (l:List ByteArray):jo (je l)=jf l:=
 ub (FH (Py l)) (pW l) λx=>by rw[zp,Lz,fT]
open Tryz
theorem DN (H:aA):aN prog 70 [.val (.slice none 0 0)] H λd H'=>d=.val (.slice none 0 0)/\H=H':=by
 refine dO func70 ntmps70 results70 λf e Q c=>?_;refine u0 c ?_;exact⟨_,aF _,by first|rfl|exact⟨rfl,rfl⟩⟩
theorem vN {H:aA}{b:Nat}{T:TypeId}(hb:H b=some (.row T o 1 (l.map sD)))(hl:l.length<=140737488351232):
  aN prog 70 [.os b o 1 0 l.length] H λd H'=>d=.os b o 1 0 (jo l).length/\∃c:List ByteArray,H'=H.aU b (.row T o 1 (c.map sD))/\c.take (jo l).length=jo l:=by
 have u:=lm sD l;refine dO func70 ntmps70 results70 λw0 M Q aB=>?_;by_cases h2:l.length<2
 ·have q1:=nT ((l.length:Int)<2)
  have p:jo l=l:=by
   match l,h2 with
   |[],_=>rfl
   |[a],_=>rfl
  refine ur aB (av u q1) trivial ?_;exact⟨_,aF _,by rw[p],l,(xX hb).symm,by rw[p,dI]⟩
 have q1:=nF ((l.length:Int)<2);refine tn (av u q1) ?_;refine aO (l.length - 1) (λi s=>s.df=[]/\s.fr 0=.os b o 1 0 l.length/\s.fr 3=i64 ((i+1:Nat):Int)/\s.H=H/\i+1<=l.length/\jo (l.take (i+1))=l.take (i+1)) ⟨rfl,rfl,rfl,rfl,by omega,by rw[bw (show 0<l.length by omega)] <;> rfl⟩ ?_;rintro i s hi ⟨V,I,J,hH,ap,r⟩;have a7:s.H b=some (.row T o 1 (l.map sD)):=by rw[hH];exact hb
 by_cases wZ:i+1<l.length
 case neg=>
  have q2:=nF (((i+1:Nat):Int)<(l.length:Int));rw[bK (by omega)] at r;refine ur aB (bQ I J q2) V ?_;exact⟨_,aF _,by rw[r],l,by rw[hH];exact(xX hb).symm,by rw[r,dI]⟩
 have q2:=nT (((i+1:Nat):Int)<(l.length:Int));have hx:((i+1:Nat):Int).toNat=i+1:=aX _;have aa:=aX i;have P:(0:Int)<=((i+1:Nat):Int):=aZ _;have a4:=aZ i;have g:=fg wZ;have f:=fg (show i<l.length by omega);have a3:i<l.length:=by omega
 have q3:=lT i l.length;have w1:IntKind.i64.wrap (((i+1:Nat):Int) - 1)=(i:Int):=by rw[aP (by omega)];omega
 have w2:IntKind.i64.wrap (((i+1:Nat):Int)+1)=((i+1+1:Nat):Int):=by rw[aP (by omega)];omega
 have E:=CD wZ;by_cases he:l[i]=l[i+1]
 case neg=>
  have q4:(l[i+1].toList=l[i].toList)=False:=aI λe=>he (eA.1 e).symm;rw[aC he] at E;refine tq (bQ I J q2) ?_;intro U Y O C;refine dE (λ_ _ _ _=>False) λU Y=>?_;refine dst (bG I J a7 g f hx aa (bG P a4 wZ a3 u q2 q3 (av q4 w1))) ?_;intro U Y O C;refine tn (av J w2) ?_;exact⟨by show i<l.length - 1;omega,V,I,rfl,hH,by omega,by rw[E,r,<-bw wZ]⟩
 have q4:(l[i+1].toList=l[i].toList)=True:=aG (by rw[he]);rw[aD he] at E;refine tq (bQ I J q2) ?_;intro U Y O C;refine dE (λ_ _ _ _=>False) λU Y=>?_;refine dst (bG I J a7 g f hx aa (bG P a4 wZ a3 u q2 q3 (av q4 w1))) ?_;intro U Y O C;have q5:=nT (((i+1:Nat):Int)<=(l.length:Int));refine tq (ej I J q2 hx P u q5) ?_;intro U Y O C;obtain⟨n2,al⟩:=oX (l.length - (i+1));rw[<-al];refine aO (n2 - 1) (λj s=>s.df=[]/\s.fr 0=.os b o 1 0 l.length/\s.fr 4=.os b o 1 (i+1) n2/\s.fr 5=i64 ((j+1:Nat):Int)/\j+1<=n2/\∃(c:List ByteArray) (k:Nat),s.H=H.aU b (.row T o 1 (c.map sD))/\c.length=l.length/\s.fr 3=i64 k/\c.take k=jo (l.take (i+1+j+1))/\(∀m (h:m<l.length) (h':m<c.length),i+1+j<=m->c[m]=l[m])/\k<=i+1+j) ⟨V,I,rfl,rfl,by omega,l,i+1,by show s.H=_;rw[hH];exact(xX hb).symm,rfl,J,by show _=jo (l.take (i+1+1));rw[E,r],λ_ _ _ _=>rfl,by omega⟩ ?_;rintro j s2 hj ⟨L,M,K,N,ar,c,k,B,p,g3,v,w,aw⟩;have A:s2.H b=some (.row T o 1 (c.map sD)):=by rw[B];exact aK _ _ _
 have z:=lm sD c;by_cases Z:j+1<n2
 case neg=>
  have q6:=nF (((j+1:Nat):Int)<(n2:Int));have ag:i+1+j+1=l.length:=by omega
  rw[ag,dI] at v;have a0:k=(jo l).length:=by rw[<-v,bX];omega
  have q7:=nT ((k:Int)<=(l.length:Int));have a2:=aX k;have S:=aZ k;have t:k<=c.length:=by omega
  refine ur aB (bG M g3 K N q6 q7 a2 (cw S A z t @tP)) L ?_;have am:(jo l).length<=c.length:=by have:=NK l;omega
  exact⟨_,aF _,by rw[a0],jo l,by rw[B,tC,<-iK,v],dI⟩
 have q6:=nT (((j+1:Nat):Int)<(n2:Int));have a9:i+1+j+1<l.length:=by omega
 have g:(c.map sD)[i+1+(j+1)]?=some [.val (.string c[i+1+j+1])]:=fg (show i+1+j+1<c.length by omega);have f:=fg (show i+1+j<c.length by omega);rw[w _ a9 (by omega) (by omega)] at g;rw[w _ (show i+1+j<l.length by omega) (by omega) (by omega)] at f;have a1:((j+1:Nat):Int).toNat=j+1:=aX _;have a6:=aX j;have R:(0:Int)<=((j+1:Nat):Int):=aZ _;have a5:=aZ j;have q7:=nT ((j:Int)<(n2:Int));have a8:j<n2:=by omega
 have w3:IntKind.i64.wrap (((j+1:Nat):Int) - 1)=(j:Int):=by rw[aP (by omega)];omega
 have w4:IntKind.i64.wrap (((j+1:Nat):Int)+1)=((j+1+1:Nat):Int):=by rw[aP (by omega)];omega
 have w5:=wS k;have n:=CD (l:=l) (i:=i+1+j) a9;obtain⟨x,ab⟩:=oX (l[i+1+j]);obtain⟨y,ac⟩:=oX (l[i+1+j+1]);rw[<-ac] at g;rw[<-ab] at f;rw[<-ab,<-ac] at n;by_cases G:x=y
 ·have q8:(y.toList=x.toList)=True:=aG (by rw[G])
  rw[aD G] at n;refine tq (cw M g3 K N q6) ?_;intro U Y O C;refine dE (λ_ _ _ _=>False) λU Y=>?_;refine dst (bG K N A g f a1 a6 (bG R a5 Z a8 z q6 q7 (av q8 w3))) ?_;intro U Y O C;refine tn (av N w4) ?_;exact⟨by show j<n2 - 1;omega,L,M,K,rfl,by omega,c,k,B,p,g3,by rw[show i+1+(j+1)+1=i+1+j+1+1 by omega,n];exact v,λm h h' hm=>w m h h' (by omega),by omega⟩
 ·have q8:(y.toList=x.toList)=False:=aI λe=>G (eA.1 e).symm
  rw[aC G] at n;have a2:=aX k;have S:=aZ k;have a0:k<l.length:=by omega
  have ae:=lT k l.length;have t:k<c.length:=by omega
  have ak:=fg t;refine tq (cw M g3 K N q6) ?_;intro U Y O C;refine dE (λ_ _ _ _=>False) λU Y=>?_;refine dst (bG K N A g f a1 a6 (bG R a5 Z a8 z q6 q7 (av q8 w3))) ?_;intro U Y O C;refine tq (bG M g3 K N q6 q7 q8 (bG w4 w5 A g f ak a1 (bG R a2 S a0 ae t Z z))) ?_;intro U Y O C;have ad:(List.map sD c).set k [.val (.string y)]=(c.set k y).map sD:=by rw[List.map_set];rfl
  refine⟨by show j<n2 - 1;omega,L,M,K,rfl,by omega,c.set k y,k+1,by show s2.H.aU b _=_;rw[B,tC,<-ad],by rw[mA];exact p,rfl,?_,λm h h' hm=>?_,by omega⟩
  ·rw[show i+1+(j+1)+1=i+1+j+1+1 by omega,n,bw (by rw[mA];exact t),zG (bh _),v,List.getElem_set_self]
  ·rw[List.getElem_set_ne (by omega)]
   exact w m h (by rw[mA] at h';exact h') (by omega)
theorem Se (h:a.toList<b.toList):Op.bytesLess a.toList b.toList=true:=by rw[Go.Proofs.bytesLess_eq];exact ah h
theorem Sd (h:¬a.toList<b.toList):Op.bytesLess a.toList b.toList=false:=by rw[Go.Proofs.bytesLess_eq];exact af h
theorem L9 (h:i<l.length)(hn:¬(s.toList<l[i].toList\/s=l[i])):lL s (l.drop i)=l[i]::lL s (l.drop (i+1)):=by rw[cL h,lL,aC λe=>hn (.inr e),aC λe=>hn (.inl e)]
theorem SL (h:i<l.length)(hn:s.toList<l[i].toList):lL s (l.drop i)=s::l[i]::l.drop (i+1):=by rw[cL h,lL,aC (λe=>by rw[e] at hn;exact List.lt_irrefl _ hn),aD hn]
theorem L8 (h:i<l.length)(hn:s=l[i]):lL s (l.drop i)=l[i]::l.drop (i+1):=by rw[cL h,lL,aD hn]
def aC0 (l:List ByteArray) (s:ByteArray) (i:Nat) (c:Bool) (out:List ByteArray):Prop:=(c=true->out++l.drop i=lL s l)/\(c=false->out++lL s (l.drop i)=lL s l)/\out.length<=i+c.toNat
theorem Yi (l:List ByteArray)(s:ByteArray)(H:aA)(hl:l.length<=1000000000):aN prog 21 [.seq 1 (l.map sD),bC s] H λd H'=>d=.seq 1 ((lL s l).map sD)/\H=H':=by
 refine aq (K:=λd=>d=.seq 1 ((lL s l).map sD)) ?_;have k:=lm sD l;refine dO func21 ntmps21 results21 λw0 g0 Q aB=>?_;refine tn @bC.eq_1 ?_;refine aO l.length (λi w=>w.df=[]/\w.fr 0=.seq 1 (l.map sD)/\w.fr 1=.val (.string s)/\w.fr 7=i64 i/\H.le w.H/\∃G out ob,w.fr 6=.val (.bool G)/\Gl H 9 1 (out.map sD) (w.fr 5) w.H ob/\aC0 l s i G out) ⟨rfl,rfl,rfl,rfl,aF _,false,[],none,rfl,eB _ _ _ _,by simp,by simp,by simp⟩ ?_;rintro i w hi ⟨n,r,y,t,A,G,out,ob,z,J,rV,j,B⟩;have OH:out.length<=i+1:=by have:=Bool.toNat_le G;omega
 have T:=aX i;have u:=aZ i;by_cases f:i<l.length
 case neg=>
  have E:=lF i l.length;have hd:l.drop i=[]:=cb (by omega);rw[hd] at rV j;cases G with
  |true=>
   have v:=rV rfl
   rw[bz] at v
   refine ur aB (cw r z t k E) n ?_
   exact⟨_,aF _,A,_,da A J,by rw[v]⟩
  |false=>
   have v:=j rfl
   refine tq (eP r y z t k E) ?_;intro U Y O C
   refine ax (e:=9) kR rfl kR rfl G5 rfl (by decide) A J (new:=[sD s]) (by exact⟨rfl,rfl⟩) (by rw[aS];show(_+1) * 16<=_;omega) λd V m c g _=>?_
   rw[show[sD s]=[s].map sD from rfl,<-bI] at c
   refine ur aB trivial n ?_
   exact⟨_,aF _,g,_,da g c,by rw[<-v] <;> rfl⟩
 have E:=lT i l.length;have p:=fg f;have w3:=wS i;have R:=L9 (s:=s) f;have P:=SL (s:=s) f;have S:=L8 (s:=s) f;have M:l.drop i=l[i]::l.drop (i+1):=cL f;obtain⟨x,a1⟩:=oX l[i];rw[<-a1] at p R P S M;cases G with
 |true=>
  refine tq (bG r z t k E p T (av u f)) ?_;intro U Y O C
  refine ax (e:=9) kR rfl kR rfl G5 rfl (by decide) A J (new:=[sD x]) (by exact⟨rfl,rfl⟩) (by rw[aS];show(_+1) * 16<=_;omega) λd V m c g _=>?_
  rw[show[sD x]=[x].map sD from rfl,<-bI] at c
  refine tn (av t w3) ?_
  exact⟨f,n,r,y,rfl,g,true,out++[x],m,z,c,(λ_=>by rw[bE,<-rV rfl,M] <;> rfl),(λh=>by cases h),by rw[aV,eE];omega⟩
 |false=>
  have j:=j rfl
  by_cases I:s.toList<x.toList
  ·have Z:=Se I
   rw[P I] at j
   have L:(s.toList=x.toList)=False:=aI λe=>by rw[e] at I;exact List.lt_irrefl _ I
   refine tq (bG r y z t k E p (ej T u f Z L @Bool.or_false @Bool.true_or)) ?_;intro U Y O C
   refine ax (e:=9) kR rfl kR rfl G5 rfl (by decide) A J (new:=[sD s]) (by exact⟨rfl,rfl⟩) (by rw[aS];show(_+1) * 16<=_;omega) λd V m c g _=>?_
   rw[show[sD s]=[s].map sD from rfl,<-bI] at c
   refine tq (ej r t k p T u f) ?_;intro U Y O C
   refine ax (e:=9) kR rfl kR rfl G5 rfl (by decide) g c (new:=[sD x]) (by exact⟨rfl,rfl⟩) (by rw[aS,aV];show(_+1+1) * 16<=_;omega) λd H7 a2 N a0 _=>?_
   rw[show[sD x]=[x].map sD from rfl,<-bI] at N
   refine tn (av t w3) ?_
   exact⟨f,n,r,y,rfl,a0,true,out++[s]++[x],a2,rfl,N,(λ_=>by rw[<-j];simp),(λh=>by cases h),by rw[aV,aV,eE,eE];simp at B ⊢;omega⟩
  ·have Z:=Sd I
   by_cases h2:s=x
   ·have L:(s.toList=x.toList)=True:=aG (by rw[h2])
    rw[S h2] at j
    refine tq (bG r y z t k E p (eP T u f Z L @nq)) ?_;intro U Y O C
    refine ax (e:=9) kR rfl kR rfl G5 rfl (by decide) A J (new:=[sD x]) (by exact⟨rfl,rfl⟩) (by rw[aS];show(_+1) * 16<=_;omega) λd V m c g _=>?_
    rw[show[sD x]=[x].map sD from rfl,<-bI] at c
    refine tn (av t w3) ?_
    exact⟨f,n,r,y,rfl,g,true,out++[x],m,rfl,c,(λ_=>by rw[<-j];simp),(λh=>by cases h),by rw[aV,eE];simp at B ⊢;omega⟩
   ·have L:(s.toList=x.toList)=False:=aI λe=>h2 (eA.1 e)
    rw[R λh=>h.elim I h2] at j
    refine tq (bG r y z t k E p (eP T u f Z L @nq)) ?_;intro U Y O C
    refine ax (e:=9) kR rfl kR rfl G5 rfl (by decide) A J (new:=[sD x]) (by exact⟨rfl,rfl⟩) (by rw[aS];show(_+1) * 16<=_;omega) λd V m c g _=>?_
    rw[show[sD x]=[x].map sD from rfl,<-bI] at c
    refine tn (av t w3) ?_
    exact⟨f,n,r,y,rfl,g,false,out++[x],m,z,c,(λh=>by cases h),(λ_=>by rw[<-j];simp),by rw[aV,eE];simp at B ⊢;omega⟩
theorem DL {Hb H:aA}{b:Nat}{T:TypeId}(g:Hb.le H)(h0:Hb b=none)(hb:H b=some (.row T o 1 (l.map sD)))(hl:l.length<=140737488351232):
  aN prog 70 [.os b o 1 0 l.length] H λd H'=>d=.seq 1 ((jo l).map sD)/\Hb=H':=
 (vN hb hl).xQ λd H' ⟨j,f,h,e⟩=>by
  subst j h;have c:Hb.le (H.aU b (.row T o 1 (f.map sD))):=aQ g h0;have n:(jo l).length<=f.length:=by have:=ai List.length e;rw[bX] at this;omega
  refine⟨_,Hb,λk m=>iY c m,λw p=>p.less c,nY (k:=0) c (aK _ _ _) h0 (by rw[aS];omega),?_,rfl⟩;rw[dj,<-iK,e]
def Wz:D:=.val (.pointer none)
def fB (l:List ByteArray):D:=.rp [.seq 1 (l.map sD)]
def AO (l:List ByteArray):D:=if (∀s∈l,eY s=true) then .eO [fB (jf l),i64 0] else .eO [Wz,i64 12]
theorem ON (l:List ByteArray)(H:aA)(hl:l.length<=1000000)(hs:∀s∈l,cH s.size):aN prog 36 [.seq 1 (l.map sD)] H λd H'=>d=AO l/\H=H':=by
 refine aq (K:=λd=>d=AO l) ?_;have p:=lm sD l;refine dO func36 ntmps36 results36 λw0 Z Q z=>?_;refine tn p ?_;refine aO l.length (λi s=>s.df=[]/\s.fr 0=.seq 1 (l.map sD)/\s.fr 7=.seq 1 (l.map sD)/\s.fr 8=i64 l.length/\s.fr 9=i64 i/\s.H=H/\∀s∈l.take i,eY s=true) ⟨rfl,rfl,rfl,rfl,rfl,rfl,by intro s hs;cases hs⟩ ?_;rintro i s hi ⟨n,g,j,k,m,r,E⟩;have R:=aX i;have B:=aZ i;by_cases f:i<l.length
 case neg=>
  have J:=lF i l.length;rw[bK (by omega)] at E;have y:AO l=.eO [fB (jf l),i64 0]:=aD E;rw[<-AY] at y;refine tq (cw g j k m J) ?_;intro U Y O C;refine(Uc (l.map sD) _ (by rw[p];exact hl)).mono ?_;rintro d V (⟨rfl,h0,rfl⟩|⟨b,o,M,rfl,rfl⟩)
  ·have I:l=[]:=by simpa using h0
   refine tq (cA g j k m) ?_;intro U Y O C;refine(MA _).qs (cA g j k m) ?_;intro U Y O C;refine(DN _).q ?_;have N:jo (je l)=[]:=by rw[I,AY];rfl
   refine YE 22 (.seq 1 ((jo (je l)).map sD)) (λw v P=>by rw[N];exact fO _ _ _ P) ?_;refine tq (cA g j k m) ?_;intro U Y O C;intro c t;refine Y _ ?_;refine ur z trivial n ?_;rw[r] at t ⊢;have e:=aQ (x:=.row 132 0 1 [[.seq 1 ((jo (je l)).map sD)]]) (aF H) t;exact⟨_,aF _,e,.eO [fB (jo (je l)),i64 0],lI ⟨HQ e (aK _ _ _) t rfl,aL e,trivial⟩,by rw[y]⟩
  ·rw[p]
   have u:H b=none:=by rw[<-r];exact M
   refine tq (cA g j k m) ?_;intro U Y O C;refine(Ci (aK _ _ _) (by omega)).mono ?_;rintro d _ ⟨rfl,rfl⟩;rw[tC];refine tq (cA g j k m) ?_;intro U Y O C;have L:=DL (Hb:=H) (T:=9) (o:=o) (l:=je l) (aQ (by rw[r];exact aF _) u) u (aK s.H b _) (by rw[iS];omega);rw[iS] at L;refine L.qs (cA g j k m) ?_;intro U Y O C;intro c t;refine Y _ ?_;refine ur z trivial n ?_;have e:=aQ (x:=.row 132 0 1 [[.seq 1 ((jo (je l)).map sD)]]) (aF H) t;exact⟨_,aF _,e,.eO [fB (jo (je l)),i64 0],lI ⟨HQ e (aK _ _ _) t rfl,aL e,trivial⟩,by rw[y]⟩
 have A:(i:Int)<(l.length:Int):=by omega
 have J:((i:Int)<(l.length:Int))=True:=aG A;have G:=fg f;have S:=wS i;refine tq (bG g j k m J p G (bQ R B f)) ?_;intro U Y O C;refine(xG l[i] _ (hs _ (ao f))).q ?_;cases hid:eY l[i]
 ·have y:AO l=.eO [Wz,i64 12]:=aC λh=>by rw[h _ (ao f)] at hid;cases hid
  refine ur z (cA g j k m) n ?_;exact⟨_,aF _,by rw[r];exact aF _,.eO [Wz,i64 12],by rw[r];exact aL (aF _),y.symm⟩
 ·refine tq (cw g j k m S) ?_;intro U Y O C
  refine⟨f,n,g,j,k,rfl,r,λs hs=>?_⟩;rw[bw f] at hs;rcases bB.1 hs with h|h
  ·exact E s h
  ·rw[bM.1 h];exact hid
theorem E5 (n:Nat)(hn:n<=140737488351232)(g:FuncId)(v:List D)(f:Nat->Bool)(H:aA)(hf:∀k<n,aN prog g (i64 k::v) H λd H'=>d=.val (.bool (f k))/\H=H')
  (hm:∀k m,k<=m->m<n->f k=true->f m=true):aN prog 303 [i64 n,.fn g v] H λd H'=>(∃i:Nat,d=i64 i/\i<=n/\(∀k<i,f k=false)/\∀k,i<=k->k<n->f k=true)/\H=H':=by
 refine dO func303 ntmps303 results303 λw0 V Q I=>?_;refine t0 ?_;intro U Y O C;refine jz (λm s=>s.df=[]/\s.fr 1=.fn g v/\s.H=H/\∃i j:Nat,s.fr 5=i64 i/\s.fr 6=i64 j/\m=j - i/\i<=j/\j<=n/\(∀k<i,f k=false)/\∀k,j<=k->k<n->f k=true) n ⟨rfl,rfl,rfl,0,n,rfl,rfl,rfl,jY _,bh _,λk h=>absurd h (by omega),λk Z J=>absurd J (by omega)⟩ ?_;rintro m s ⟨t,c,u,i,j,p,r,rfl,K,w,A,B⟩;by_cases L:i<j
 case neg=>
  have z:=nF ((i:Int)<(j:Int));have e:j=i:=by omega
  refine ur I (cA c p r z) p ?_;exact⟨_,aF _,⟨i,rfl,by omega,A,λk h=>B k (by omega)⟩,u.symm⟩
 have z:=nT ((i:Int)<(j:Int));obtain⟨h,hh⟩:=oX ((i+j) / 2);have M:IntKind.i64.wrap ((i:Int)+(j:Int))=((i+j:Nat):Int):=by rw[aP (by omega)];omega
 have N:IntKind.u64.wrap ((i+j:Nat):Int)=((i+j:Nat):Int):=by rw[IntKind.wrap_u64];omega
 have P:((i+j:Nat):Int).fdiv (2 ^ min 1 64)=(h:Int):=by rw[show((2:Int) ^ min 1 64)=2 by decide,Int.fdiv_eq_ediv_of_nonneg _ (by omega)];omega
 have R:IntKind.i64.wrap (h:Int)=(h:Int):=aP (by omega);have S:IntKind.u64.wrap (h:Int)=(h:Int):=by rw[IntKind.wrap_u64];omega
 refine tq (bG c p r z M N P (av R S)) ?_;intro U Y O C;have G:=hf h (by omega);rw[<-u] at G;refine G.q ?_;have T:=wS h;cases hfh:f h
 ·refine tq (cA c p r T) ?_;intro U Y O C
  refine⟨j - (h+1),by show _<_;omega,t,c,u,h+1,j,rfl,r,rfl,by omega,w,λk E=>?_,B⟩;cases hfk:f k
  ·rfl
  ·rw[hm k h (by omega) (by omega) hfk] at hfh;cases hfh
 ·refine tn (bQ c p r) ?_
  exact⟨h - i,by show _<_;omega,t,c,u,i,h,p,rfl,rfl,by omega,by omega,A,λk E y=>hm h k E y hfh⟩
theorem H9 (l:List ByteArray)(hl:l.length<=140737488351232)(g:FuncId)(n:List D)(p:ByteArray->Bool)(H:aA)(hp:∀s∈l,∀H,aN prog g (bC s::n) H λd H'=>d=.val (.bool (p s))/\H=H')(k:Nat)(hk:k<l.length):
  aN prog 304 [i64 k,.rp [.fn g n],.rp [.seq 1 (l.map sD)]] H λd H'=>d=.val (.bool (!p l[k]))/\H=H':=by
 have v:=aX k;have f:=aZ k;have j:=fg hk;have m:=lm sD l;have e:(k:Int)<(l.length:Int):=by omega
 refine dO func304 ntmps304 results304 λy w Q r=>?_;refine t0 ?_;intro U Y O C;refine dE (λt _ d A=>A=.none/\d=.val (.bool (p l[k]))) λU Y=>?_;refine dst (cw j v f m e) ?_;intro U Y O C;refine⟨an λc u=>(hp l[k] (ao hk) c).mono λd H' h=>h,?_⟩;refine nx ?_;refine dst trivial ?_;intro U Y O C;refine nx ?_;refine u0 r ?_;(first|exact⟨_,aF _,rfl⟩|exact⟨_,aF _,rfl,rfl⟩)
theorem Lb (l:List ByteArray)(hl:l.length<=140737488351232)(g:FuncId)(r:List D)(p:ByteArray->Bool)(H:aA)(hp:∀s∈l,∀H,aN prog g (bC s::r) H λd H'=>d=.val (.bool (p s))/\H=H')
  (hm:∀(k m:Nat) (h1:k<l.length) (h2:m<l.length),k<=m->p l[m]=true->p l[k]=true):aN prog 235 [.seq 1 (l.map sD),.fn g r] H λd H'=>(∃i:Nat,d=i64 i/\i<=l.length/\(∀(k:Nat) (h:k<l.length),k<i->p l[k]=true)/\∀(k:Nat) (h:k<l.length),i<=k->p l[k]=false)/\H=H':=by
 have f:=lm sD l;refine dO func235 ntmps235 results235 λI G Q w=>?_;refine t0 ?_;intro U Y O C;intro B t E u;refine Y _ ?_;refine cm 3 u ?_;refine cm 2 t ?_;refine tq f ?_;intro U Y O C;refine(E5 l.length hl 304 [.rp [.fn g r],.rp [.seq 1 (l.map sD)]] (λk=>if h:k<l.length then !p l[k] else true) _ (λk c=>(H9 l hl g r p _ hp k c).mono λd H' h=>⟨by rw[h.1,kL c],h.2⟩) (λk m v f c=>?_)).mono ?_
 ·have n:k<l.length:=by omega
  simp only[kL f,kL n] at c ⊢;cases e:p l[m]
  ·rfl
  ·rw[hm k m n f v e] at c;cases c
 rintro d _ ⟨⟨i,rfl,A,y,z⟩,rfl⟩;refine u0 w ?_;refine⟨_,aF _,⟨i,rfl,A,λk c j=>?_,λk c j=>?_⟩,rfl⟩
 ·have:=y k j
  simpa only[kL c,Bool.not_eq_false'] using this
 ·have:=z k j c
  simpa only[kL c,mY] using this
instance (a b:ByteArray):Decidable (xx a b):=inferInstanceAs (Decidable (a.toList<b.toList))
theorem SG (x s:ByteArray)(H:aA):aN prog 236 [bC x,.rp [bC s]] H λd H'=>d=.val (.bool (decide (xx x s)))/\H=H':=by
 have e:Op.bytesLess x.toList s.toList=decide (xx x s):=by rw[Go.Proofs.bytesLess_eq];rfl
 refine dO func236 ntmps236 results236 λg f Q c=>?_;refine ur c (av @bC.eq_1 e) trivial ?_;(first|exact⟨_,aF _,rfl⟩|exact⟨_,aF _,rfl,rfl⟩)
def sK (l:List ByteArray) (s:ByteArray):D:=.eO [i64 (if rQ l s<l.length then (rQ l s:Int) else 0),.val (.bool (decide (rQ l s<l.length)))]
theorem F7 (l:List ByteArray)(s:ByteArray)(H:aA)(hl:l.length<=140737488351232)(hs:l.Pairwise xx):aN prog 156 [fB l,bC s] H λd H'=>d=sK l s/\H=H':=by
 have n:=lm sD l;refine dO func156 ntmps156 results156 λZ T Q z=>?_;refine tq (av @fB.eq_1 @bC.eq_1) ?_;intro U Y O C;intro S E;refine Y _ ?_;refine cm 3 E ?_;refine t0 ?_;intro U Y O C;have v:=List.pairwise_iff_getElem.1 hs;refine(Lb l hl 236 [.rp [bC s]] (λx=>decide (xx x s)) _ (λx _ H=>SG x s H) (λk m A B R L=>?_)).mono ?_
 ·by_cases e:k=m
  ·subst e;exact L
  ·exact ah (CX (v k m A B (by omega)) (rD L))
 rintro d _ ⟨⟨i,rfl,V,N,P⟩,rfl⟩;have j:∀(k:Nat) (g:k<l.length),k<i->l[k]≠s:=λk g I e=>Dy s (by have:=rD (N k g I);rwa[e] at this);by_cases c:i<l.length
 case neg=>
  have y:=nT ((i:Int)=(l.length:Int));have f:¬rQ l s<l.length:=λh=>by
   obtain⟨k,g,e⟩:=kV (mN.1 h);exact j k g (by omega) e
  have t:sK l s=.eO [i64 0,.val (.bool false)]:=by unfold sK;rw[aC f,af f]
  refine t0 ?_;intro U Y O C;refine dE (λ_ _ _ _=>False) λU Y=>?_;refine dst (av n y) ?_;intro U Y O C;refine nx ?_;refine u0 z ?_;exact⟨_,aF _,t.symm,rfl⟩
 have y:=nF ((i:Int)=(l.length:Int));have u:=fg c;have M:=aX i;have r:=aZ i;have p:(i:Int)<(l.length:Int):=by omega
 by_cases w:l[i]=s
 ·have G:=OU c w j
  have J:(l[i].toList=s.toList)=True:=aG (by rw[w]);have t:sK l s=.eO [i64 i,.val (.bool true)]:=by unfold sK;rw[G,aD c,ah c]
  refine t0 ?_;intro U Y O C;refine dE (λ_ _ _ _=>False) λU Y=>?_;refine dst (ej n y u M r p J) ?_;intro U Y O C;refine nx ?_;refine u0 z ?_;exact⟨_,aF _,t.symm,rfl⟩
 ·have f:¬rQ l s<l.length:=λh=>by
   obtain⟨k,g,e⟩:=kV (mN.1 h);by_cases A:k<i
   ·exact j k g A e
   ·by_cases B:k=i
    ·subst B;exact w e
    ·have K:=v i k c g (by omega)
     rw[e] at K;exact of_decide_eq_false (P i c (bh _)) K
  have J:(l[i].toList=s.toList)=False:=aI λh=>w (eA.1 h)
  have t:sK l s=.eO [i64 0,.val (.bool false)]:=by unfold sK;rw[aC f,af f]
  refine t0 ?_;intro U Y O C
  refine dE (λ_ _ _ _=>False) λU Y=>?_;refine dst (ej n y u M r p J) ?_;intro U Y O C
  refine nx ?_
  refine u0 z ?_
  exact⟨_,aF _,t.symm,rfl⟩
theorem HX (l:List ByteArray)(H:aA):aN prog 57 [fB l] H λd H'=>d=i64 l.length/\H=H':=by
 have c:=lm sD l;refine dO func57 ntmps57 results57 λg f Q e=>?_;refine ur e (av @fB.eq_1 c) trivial ?_;(first|exact⟨_,aF _,rfl⟩|exact⟨_,aF _,rfl,rfl⟩)
def HV (l:List ByteArray) (i:Int):D:=if bN l.length i then .eO [bC (l.getD i.toNat ByteArray.empty),.val (.bool true)] else .eO [bC ByteArray.empty,.val (.bool false)]
theorem Yg (l:List ByteArray)(i:Int)(H:aA):aN prog 197 [fB l,i64 i] H λd H'=>d=HV l i/\H=H':=by
 have m:=lm sD l;by_cases r:i<0
 ·have g:(i<0)=True:=aG r
  have e:HV l i=.eO [bC ByteArray.empty,.val (.bool false)]:=aC λh=>by unfold bN at h;omega
  rw[e];refine dO func197 ntmps197 results197 λt p Q c=>?_;refine ur c (av @fB.eq_1 g) trivial ?_;(first|exact⟨_,aF _,rfl⟩|exact⟨_,aF _,rfl,rfl⟩)
 have g:(i<0)=False:=aI r;by_cases u:i<l.length
 case neg=>
  have n:=nT (i≥(l.length:Int));have e:HV l i=.eO [bC ByteArray.empty,.val (.bool false)]:=aC λh=>by unfold bN at h;omega
  rw[e];refine dO func197 ntmps197 results197 λt p Q c=>?_;refine tq (av @fB.eq_1 g) ?_;intro U Y O C;refine(HX l _).q ?_;refine nx ?_;refine ur c n trivial ?_;(first|exact⟨_,aF _,rfl⟩|exact⟨_,aF _,rfl,rfl⟩)
 have n:=nF (i≥(l.length:Int));have f:i.toNat<l.length:=by omega
 have k:=fg f;have j:(0:Int)<=i:=by omega
 have e:HV l i=.eO [bC l[i.toNat],.val (.bool true)]:=by
  unfold HV;rw[aD (by unfold bN;omega),gZ,az f];rfl
 rw[e];refine dO func197 ntmps197 results197 λt p Q c=>?_;refine tq (av @fB.eq_1 g) ?_;intro U Y O C;refine(HX l _).q ?_;refine nx ?_;refine ur c (eP n @fB.eq_1 m k j u) trivial ?_;(first|exact⟨_,aF _,rfl⟩|exact⟨_,aF _,rfl,rfl⟩)
end Go.Proofs.YtffgfafbffdgaaaGreatDoor
