/- Lemmas and contracts of functions, several texts in one. -/
import Derived.Test.YtfiipaodjpiooaaGreatDoorProg
import Derived.Lib.Strings
import Derived.Lib.Bytealg
import Derived.Lib.Walk
import Derived.Laws.Externs
import Derived.WalkKit
import Derived.Test.YtfiipaodjpiooaaGreatDoorQ14
set_option maxRecDepth 100000
set_option maxHeartbeats 4000000
set_option linter.all false
namespace Go.Proofs.YtfiipaodjpiooaaGreatDoor
open Tryz
theorem aZL (s:ByteArray) (c:Int) (w:World):
  Calls prog 174 #[.string s,.int .u8 c] w fun e w'=>e=.returned (.int .i64 (firstIdx s c.toNat.toUInt8))/\w=w':=by
 go_enter func174,ntmps174
 go_wp2
 rw[run_callFunc_extern func209 (by kernel_rfl) (by kernel_rfl) (by kernel_rfl) (e:=Extern.BytealgIndexByte.indexByte) (by kernel_rfl),run_indexByte_string]
 go_wp2
 go_ret
 exact⟨rfl,rfl⟩
end Go.Proofs.YtfiipaodjpiooaaGreatDoor
namespace Go.Proofs.YtfiipaodjpiooaaGreatDoor
open Go.RowKit
theorem BV.len {H H':aC}:∀{ds es:List D},BV H H' ds es->ds.length=es.length
 |[],[],_=>rfl
 |d::ds,e::es,h=>by rw[eO,eO,BV.len h.2]
 |[],_::_,h=>h.elim
 |_::_,[],h=>h.elim
theorem BV.at {H H':aC} {w:World} (hH:iK w H') {b:Nat}:∀{ds es:List D} {o:Nat},BV H H' ds es->dL w H'.others b o ds->dL w H.others b o es
 |[],[],_,_,h=>by simp only[dL] at h ⊢
 |d::ds,e::es,o,hv,h=>by
  simp only[dL] at h ⊢
  obtain⟨⟨u,h1,h2,h3⟩,h4⟩:=h
  exact⟨⟨u,h1,h2,hv.1 w u hH h3⟩,BV.at hH hv.2 h4⟩
 |[],_::_,_,hv,_=>hv.elim
 |_::_,[],_,hv,_=>hv.elim
def aB4 (H H':aC):List (List D)->List (List D)->Prop
 |[],[]=>True
 |d::ds,e::es=>BV H H' d e/\aB4 H H' ds es
 |_,_=>False
theorem aB4.len {H H':aC}:∀{ds es:List (List D)},aB4 H H' ds es->ds.length=es.length
 |[],[],_=>rfl
 |d::ds,e::es,h=>by rw[eO,eO,aB4.len h.2]
 |[],_::_,h=>h.elim
 |_::_,[],h=>h.elim
theorem aB4.at {H H':aC} {w:World} (hH:iK w H') {b sz:Nat}:∀{ds es:List (List D)} {o:Nat},aB4 H H' ds es->eB w H'.others b sz o ds->eB w H.others b sz o es
 |[],[],_,_,h=>by simp only[eB] at h ⊢
 |d::ds,e::es,o,hv,h=>by
  simp only[eB] at h ⊢
  exact⟨hv.1.len▸h.1,hv.1.at hH h.2.1,aB4.at hH hv.2 h.2.2⟩
 |[],_::_,_,hv,_=>hv.elim
 |_::_,[],_,hv,_=>hv.elim
theorem aFc (H:aC) (b:Nat) (x y:fK):(H.bH b x).bH b y=H.bH b y:=by
 funext c
 by_cases e:c=b
 ·rw[e,aO,aO]
 ·rw[aN e,aN e,aN e]
open Tryz
theorem aEl {P:Program} {f:FuncId} {us:List Value} {v:Value} {H:aC} (he:aFm P f) (h:∀w,Calls P f us.toArray w fun e w'=>e=.returned v/\w=w'):bE P f (us.map .val) H fun d H'=>d=.val v/\H=H':=
 And.intro he fun w vs zD hH _=>by
  have:vs=us:=by
   clear h
   induction us generalizing vs with
   |nil=>simpa only[nE,aW] using zD
   |cons u us ih=>
    simp only[eU,aW,D.is] at zD
    obtain⟨_,K9,rfl,rfl,h2⟩:=zD
    rw[ih K9 h2]
  subst this
  refine(h w).mono ?_
  rintro e w' ⟨rfl,rfl⟩
  exact⟨v,.val v,H,rfl,uA _,hH,fT _ _,rfl,rfl⟩
def aUt (c:UInt8):D:=.val (.int .u8 (c.toNat:Int))
theorem aO8 (s:ByteArray) (c:Int) (H:aC):bE prog 174 [.val (.string s),.val (.int .u8 c)] H fun d H'=>d=i64 (firstIdx s c.toNat.toUInt8)/\H=H':=
 aEl (us:=[.string s,.int .u8 c]) (uH func174 rfl rfl) fun w=>aZL s c w
theorem aRG (s:ByteArray) (c:Int) (H:aC):bE prog 146 [.val (.string s),.val (.int .u8 c)] H fun d H'=>d=i64 (firstIdx s c.toNat.toUInt8)/\H=H':=by
 refine aQ _ _ func146 rfl rfl ntmps146 results146 (by simp) fun w0 g0 Q aD=>?_
 refine tq trivial ?_;intro Nx aB Gx aF
 refine(aO8 s c _).mono ?_
 rintro d _ ⟨rfl,rfl⟩
 refine tq trivial ?_;intro Nx aB Gx aF
 refine rt aD trivial ?_
 exact⟨_,aG _,rfl⟩
def yS (p:UInt8->Bool):List D:=(List.range 256).map fun k=>.val (.bool (p (UInt8.ofNat k)))
theorem rI (p:UInt8->Bool):(yS p).length=256:=by unfold yS;rw[bC,PY]
theorem SJ (p:UInt8->Bool) {k:Nat} (h:k<256):(yS p)[k]?=some (.val (.bool (p (UInt8.ofNat k)))):=by
 unfold yS;rw[dN,List.getElem?_range h];rfl
theorem aF4 (p:UInt8->Bool) (c:UInt8):(yS p).drop c.toNat=.val (.bool (p c))::(yS p).drop (c.toNat+1):=by
 have h:c.toNat<256:=c.toNat_lt
 rw[eH (by rw[rI];exact h)]
 have e:=SJ p h
 rw[bX (by rw[rI];exact h),PW] at e
 rw[Option.some.inj e]
theorem aI6 (p:UInt8->Bool) (c:UInt8):(yS p).set c.toNat (.val (.bool true))=yS fun x=>p x||x==c:=by
 apply u5
 intro k
 by_cases h:k<256
 ·rw[SJ _ h,P0,SJ _ h]
  by_cases e:c.toNat=k
  ·subst e
   rw[aE rfl,aE (by rw[rI];exact h),PW];simp
  ·rw[aA e]
   have:(UInt8.ofNat k==c)=false:=by
    rw[beq_eq_false_iff_ne]
    intro e2
    apply e
    rw[<-e2,UInt8.toNat_ofNat',KV h]
   rw[this,Bool.or_false]
 ·rw[uR (by rw[wD,rI];omega),uR (by rw[rI];omega)]
theorem aI5 (p:UInt8->Bool) (c:UInt8):(yS p).take c.toNat++[.val (.bool true)]++(yS p).drop (c.toNat+1)=yS fun x=>p x||x==c:=by
 rw[<-aI6,List.set_eq_take_append_cons_drop,aE (by rw[rI];exact c.toNat_lt),iR];rfl
theorem QN (p:UInt8->Bool) (c:UInt8) (H:aC):bE prog 210 [.rp (yS p),aUt c] H fun d H'=>d=.val (.bool (p c))/\H=H':=by
 have hc:((c.toNat:Nat):Int).toNat=c.toNat:=bI _
 have h0:(0:Int)<=((c.toNat:Nat):Int):=bM _
 have h1:((c.toNat:Nat):Int)<256:=by have:=c.toNat_lt;omega
 have hd:=aF4 p c
 refine aQ _ _ func210 rfl rfl ntmps210 results210 (by simp) fun w0 g0 Q aD=>?_
 refine tq (kB @aUt.eq_1 hc h0 h1 hd @C6) ?_;intro Nx aB Gx aF
 refine rt aD trivial ?_
 exact⟨_,aG _,rfl⟩
theorem aEy (l:List UInt8) (n:Nat) (h:(lE l).size=n):(lE l).extract 1 n=lE (l.drop 1):=by
 apply ByteArray.ext
 rw[ZX]
 subst h
 apply n9
 rw[Array.toList_extract,pJ,pJ,sG,List.extract,cW (by rw[nD];exact dI _)]
theorem aEz (l:List UInt8) (n:Nat):(lE l).extract 0 n=lE (l.take n):=by
 apply ByteArray.ext
 rw[ZX]
 apply n9
 rw[Array.toList_extract,pJ,pJ]
 simp [List.extract]
theorem aLK (cs:List UInt8) (H:aC) (hc:∀c∈cs,c.toNat<128) (hl:cs.length<1000000):bE prog 177 [.val (.string (lE cs))] H fun d H'=>d=.pG [.agg (yS fun c=>cs.contains c),.val (.bool true)]/\H=H':=by
 have lZ:=sG cs
 have hap:∀l:List D,l++[]=l:=iJ
 refine aQ _ _ func177 rfl rfl ntmps177 results177 (by simp) fun w0 g0 Q aD=>?_
 refine tq trivial ?_;intro Nx aB Gx aF
 intro c1 mA
 refine aB _ ?_
 refine tq trivial ?_;intro Nx aB Gx aF
 refine aZ cs.length (fun i s=>s.df=[]/\s.fr 0=.val (.string (lE cs))/\s.fr 2=.ep c1 0 256 0 0/\s.fr 4=i64 i/\s.H=H.bH c1 (.row 248 0 256 [yS fun c=>(cs.take i).contains c])) ⟨rfl,rfl,rfl,rfl,?_⟩ ?_
 ·rfl
 rintro i s hi ⟨aT,f0,f2,f4,hH⟩
 have hx:=bI i
 have cJ:=bM i
 by_cases aV:i<cs.length
 case neg=>
  have p1:=lF i cs.length (by omega)
  rw[cW (by omega)] at hH
  have z1:s.H c1=some (.row 248 0 256 [yS fun c=>cs.contains c]):=by rw[hH];exact aO _ _ _
  have BT:=rI fun c=>cs.contains c
  have K5:List.drop 256 (yS fun c=>cs.contains c)=[]:=zK (by rw[rI];exact dI _)
  refine tq (BR f0 f2 f4 p1 lZ z1 BT K5 hap) ?_;intro Nx aB Gx aF
  refine rt aD (dG f2 BT) ?_
  refine⟨H,?_,rfl⟩
  rw[hH]
  exact bK (bK (aG _) mA) mA
 have cC:(i:Int)<(cs.length:Int):=by omega
 have p1:((i:Int)<(cs.length:Int))=True:=aK cC
 have w3:=wS i (by omega)
 have hg:cs[i]?=some cs[i]:=bX aV
 obtain⟨c,hce⟩:∃c,c=cs[i]:=⟨_,rfl⟩
 have aQU:=hc cs[i] (bU aV)
 rw[<-hce] at hg aQU
 have p2:((c.toNat:Int)≥128)=False:=aI (by omega)
 have hcx:((c.toNat:Nat):Int).toNat=c.toNat:=bI _
 have AL:(0:Int)<=((c.toNat:Nat):Int):=bM _
 have aYO:((c.toNat:Nat):Int)<256:=by omega
 have z1:s.H c1=some (.row 248 0 256 [yS fun c=>(cs.take i).contains c]):=by rw[hH];exact aO _ _ _
 have BT:=rI fun c=>(cs.take i).contains c
 refine tq (aJk f0 f2 f4 p1 p2 lZ hg hx cJ cC z1 BT hcx AL aYO @C6 w3) ?_;intro Nx aB Gx aF
 refine⟨by omega,?_⟩
 (first|refine aF _ ?_|refine aB _ ?_|skip)
 refine tq (gQ f0 f2 f4 w3) ?_;intro Nx aB Gx aF
 refine⟨aV,aT,f0,f2,rfl,?_⟩
 show s.H.bH c1 _=_
 rw[aI5,hH,aFc,dH aV]
 refine cS (fun p=>H.bH c1 (.row 248 0 256 [yS p])) (funext fun x=>?_)
 rw[List.contains_append,hce]
 simp
 rfl
def TrR (p:UInt8->Bool) (l:List UInt8) (k:Nat):Prop:=k<=l.length/\(∀c∈l.drop k,p c=true)/\(0<k->∀c,l[k - 1]?=some c->p c=false)
theorem aMK (p:UInt8->Bool) (l:List UInt8) (H:aC) (hl:l.length<=140737488351232):bE prog 179 [.val (.string (lE l)),.rp (yS p)] H fun d H'=>(∃k,d=.val (.string (lE (l.take k)))/\TrR p l k)/\H=H':=by
 refine aQ _ _ func179 rfl rfl ntmps179 results179 (by simp) fun w0 g0 Q aD=>?_
 refine tq trivial ?_;intro Nx aB Gx aF
 refine aZ l.length (fun i s=>s.df=[]/\s.fr 0=.val (.string (lE (l.take (l.length - i))))/\s.fr 1=.rp (yS p)/\s.H=H/\∀c∈l.drop (l.length - i),p c=true) ⟨rfl,by rw[KZ,nC] <;> rfl,rfl,rfl,by rw[KZ,List.drop_length];intro c hc;cases hc⟩ ?_
 rintro i s hi ⟨aT,f0,f1,hH,hp⟩
 obtain⟨k,hk⟩:∃k,k=l.length - i:=⟨_,rfl⟩
 rw[<-hk] at f0 hp
 have lZ:(lE (l.take k)).size=k:=by rw[sG,dU];omega
 by_cases HP:0<k
 case neg=>
  have p1:((k:Int)>0)=False:=aI (by omega)
  refine tq (gQ f0 f1 lZ p1) ?_;intro Nx aB Gx aF
  refine rt aD f0 ?_
  exact⟨_,aG _,⟨⟨k,rfl,by omega,hp,fun h=>absurd h HP⟩,hH.symm⟩⟩
 have p1:((k:Int)>0)=True:=aK (by omega)
 have w3:IntKind.i64.wrap ((k:Int) - 1)=((k - 1:Nat):Int):=by rw[bF (by omega)];omega
 have hx:((k - 1:Nat):Int).toNat=k - 1:=bI _
 have cJ:(0:Int)<=((k - 1:Nat):Int):=bM _
 have CA:k - 1<l.length:=by omega
 have hg:(l.take k)[k - 1]?=some l[k - 1]:=by rw[List.getElem?_take_of_lt (by omega),bX CA]
 have GL:l[k - 1]?=some l[k - 1]:=bX CA
 obtain⟨c,hc⟩:∃c,c=l[k - 1]:=⟨_,rfl⟩
 rw[<-hc] at hg GL
 refine tq (wG f0 f1 lZ p1 w3 hg hx cJ) ?_;intro Nx aB Gx aF
 refine(QN p c _).mono ?_
 rintro d _ ⟨rfl,rfl⟩
 cases hpc:p c
 ·refine tq f0 ?_;intro Nx aB Gx aF
  refine rt aD f0 ?_
  exact⟨_,aG _,⟨⟨k,rfl,by omega,hp,fun _ c' gG=>by rw[GL] at gG;injection gG with gG;rw[<-gG];exact hpc⟩,hH.symm⟩⟩
 ·have he:=aEz (l.take k) (k - 1)
  rw[KY,zR (by omega)] at he
  have h01:(0:Int)<=((k - 1:Nat):Int):=cJ
  have h02:((k - 1:Nat):Int)<=(k:Int):=by omega
  refine tq (nF f0 lZ w3 hx h01 h02 he) ?_;intro Nx aB Gx aF
  have aV:i<l.length:=by omega
  refine⟨aV,aT,?_,f1,hH,fun c' gG=>?_⟩
  ·rw[show l.length - (i+1)=k - 1 by omega];rfl
  ·rw[show l.length - (i+1)=k - 1 by omega,eH CA,show k - 1+1=k by omega] at gG
   rcases dJ.1 gG with h|h
   ·rw[h,<-hc];exact hpc
   ·exact hp c' h
def TrL (p:UInt8->Bool) (l:List UInt8) (k:Nat):Prop:=k<=l.length/\(∀c∈l.take k,p c=true)/\∀c,l[k]?=some c->p c=false
theorem aMJ (p:UInt8->Bool) (l:List UInt8) (H:aC) (hl:l.length<=140737488351232):bE prog 178 [.val (.string (lE l)),.rp (yS p)] H fun d H'=>(∃k,d=.val (.string (lE (l.drop k)))/\TrL p l k)/\H=H':=by
 refine aQ _ _ func178 rfl rfl ntmps178 results178 (by simp) fun w0 g0 Q aD=>?_
 refine tq trivial ?_;intro Nx aB Gx aF
 refine aZ l.length (fun i s=>s.df=[]/\s.fr 0=.val (.string (lE (l.drop i)))/\s.fr 1=.rp (yS p)/\s.H=H/\∀c∈l.take i,p c=true) ⟨rfl,rfl,rfl,rfl,by intro c hc;cases hc⟩ ?_
 rintro i s hi ⟨aT,f0,f1,hH,hp⟩
 have lZ:(lE (l.drop i)).size=l.length - i:=by rw[sG,nD]
 by_cases aV:i<l.length
 case neg=>
  have p1:(((l.length - i:Nat):Int)>0)=False:=aI (by omega)
  refine tq (gQ f0 f1 lZ p1) ?_;intro Nx aB Gx aF
  refine rt aD f0 ?_
  exact⟨_,aG _,⟨⟨i,rfl,by omega,hp,fun c hc=>by rw[uR (by omega)] at hc;cases hc⟩,hH.symm⟩⟩
 have p1:(((l.length - i:Nat):Int)>0)=True:=aK (by omega)
 have GL:l[i]?=some l[i]:=bX aV
 have hg:(l.drop i)[0]?=some l[i]:=by rw[wX];exact GL
 obtain⟨c,hc⟩:∃c,c=l[i]:=⟨_,rfl⟩
 rw[<-hc] at hg GL
 have cJ:(0:Int)<=0:=rO _
 refine tq (kB f0 f1 lZ p1 hg cJ) ?_;intro Nx aB Gx aF
 refine(QN p c _).mono ?_
 rintro d _ ⟨rfl,rfl⟩
 cases hpc:p c
 ·refine tq f0 ?_;intro Nx aB Gx aF
  refine rt aD f0 ?_
  exact⟨_,aG _,⟨⟨i,rfl,by omega,hp,fun c' gG=>by rw[GL] at gG;injection gG with gG;rw[<-gG];exact hpc⟩,hH.symm⟩⟩
 ·have he:=aEy (l.drop i) _ lZ
  rw[zU] at he
  have h01:(0:Int)<=1:=by decide
  have h02:(1:Int)<=((l.length - i:Nat):Int):=by omega
  have NG:(1:Int).toNat=1:=rfl
  have OE:((l.length - i:Nat):Int).toNat=l.length - i:=bI _
  refine tq (nF f0 lZ NG OE h01 h02 he) ?_;intro Nx aB Gx aF
  refine⟨aV,aT,rfl,f1,hH,fun c' gG=>?_⟩
  rw[dH aV] at gG
  rcases bV.1 gG with h|h
  ·exact hp c' h
  ·rw[cR.1 h,<-hc];exact hpc
def sU (c:UInt8):Bool:=decide (48<=c.toNat)&&decide (c.toNat<=57)
def DO (c:UInt8):Bool:=(decide (97<=c.toNat)&&decide (c.toNat<=122))||(decide (65<=c.toNat)&&decide (c.toNat<=90))||decide (c.toNat=95)
def BF (l:List UInt8):Bool:=decide (1<=l.length)&&decide (l.length<=255)&& !sU (l.headD 0)&&l.all fun c=>DO c||sU c
def x7 (s:ByteArray):Bool:=BF s.data.toList
def aG5:List UInt8:=[48,49,50,51,52,53,54,55,56,57]
def idS:List UInt8:=[95,97,98,99,100,101,102,103,104,105,106,107,108,109,110,111,112,113,114,115,116,117,118,119,120,121,122,65,66,67,68,69,70,71,72,73,74,75,76,77,78,79,80,81,82,83,84,85,86,87,88,89,90,48,49,50,51,52,53,54,55,56,57]
def aBe (f:UInt8->Bool):Bool:=(List.range 256).all fun k=>f (UInt8.ofNat k)
theorem UR {f:UInt8->Bool} (h:aBe f=true) (c:UInt8):f c=true:=by
 have:=eZ.1 h c.toNat (oB.2 c.toNat_lt)
 rwa[PW] at this
theorem aJu (c:UInt8):decide (firstIdx (lE aG5) c<0)= !sU c:=by
 have h:aBe (fun c=>decide (firstIdx (lE aG5) c<0)== !sU c)=true:=by decide+kernel
 simpa using UR h c
theorem aOY (c:UInt8):idS.contains c=(DO c||sU c):=by
 have h:aBe (fun c=>idS.contains c==(DO c||sU c))=true:=by decide+kernel
 simpa using UR h c
theorem BN:(⟨#[]⟩:ByteArray).toList=[]:=xM []
theorem aCl {p:UInt8->Bool} {l:List UInt8} {k j:Nat} (hk:TrR p l k) (hj:TrL p (l.take k) j):(l.take k).drop j=[]↔(l.all p)=true:=by
 obtain⟨k1,k2,k3⟩:=hk
 obtain⟨j1,j2,j3⟩:=hj
 rw[dU,zR k1] at j1
 rw[eZ]
 constructor
 ·intro h c hc
  have h1:j=k:=by
   have:=cS List.length h
   rw[nD,dU,zR k1] at this
   simp at this;omega
  rw[<-uQ k l] at hc
  rcases bV.1 hc with hc|hc
  ·exact j2 c (by rw[h1,cW (by rw[dU];omega)];exact hc)
  ·exact k2 c hc
 ·intro h
  by_cases h0:0<k
  ·have kL:k - 1<l.length:=by omega
   have:=k3 h0 _ (bX kL)
   rw[h _ (bU kL)] at this
   cases this
  ·have:k=0:=by omega
   subst this
   simp
theorem aIn (l:List UInt8) (H:aC) (hl:l.length<=140737488351232):bE prog 147 [.val (.string (lE l)),.val (.string (lE idS))] H fun d H'=>(∃m:List UInt8,d=.val (.string (lE m))/\(m=[]↔(l.all fun c=>DO c||sU c)=true))/\H=H':=by
 have NA:(fun c=>idS.contains c)=fun c=>DO c||sU c:=funext aOY
 have lZ:(lE idS).size=63:=sG _
 have q1:((lE idS).toList=(⟨#[]⟩:ByteArray).toList)=False:=aI (by rw[xM,BN];decide)
 have q3:((63:Int)=1)=False:=aI (by decide)
 by_cases h0:l=[]
 ·have q2:((lE l).toList=(⟨#[]⟩:ByteArray).toList)=True:=aK (by rw[xM,BN];exact h0)
  refine aQ _ _ func147 rfl rfl ntmps147 results147 (by simp) fun w0 g0 Q aD=>?_
  refine tq (dG q1 q2) ?_;intro Nx aB Gx aF
  refine rt aD trivial ?_
  exact⟨_,aG _,⟨l,rfl,by subst h0;simp⟩,rfl⟩
 have q2:((lE l).toList=(⟨#[]⟩:ByteArray).toList)=False:=aI (by rw[xM,BN];exact h0)
 refine aQ _ _ func147 rfl rfl ntmps147 results147 (by simp) fun w0 g0 Q aD=>?_
 refine tq (gQ q1 q2 q3 lZ) ?_;intro Nx aB Gx aF
 refine(aLK idS _ (by decide) (by decide)).mono ?_
 rintro d _ ⟨rfl,rfl⟩
 rw[NA]
 have BT:=rI fun c=>DO c||sU c
 refine tq BT ?_;intro Nx aB Gx aF
 intro c1 mA
 refine aB _ ?_
 refine fZ 5 mA ?_
 refine tq trivial ?_;intro Nx aB Gx aF
 refine(aMK _ l _ hl).mono ?_
 rintro d _ ⟨⟨k,rfl,hk⟩,rfl⟩
 refine tq trivial ?_;intro Nx aB Gx aF
 refine(aMJ _ (l.take k) _ (by rw[dU];omega)).mono ?_
 rintro d _ ⟨⟨j,rfl,hj⟩,rfl⟩
 refine tq trivial ?_;intro Nx aB Gx aF
 refine rt aD trivial ?_
 exact⟨_,aG _,⟨_,rfl,aCl hk hj⟩,rfl⟩
theorem aHX {l:List UInt8} (c:UInt8) (t:List UInt8) (h:l=c::t) (hl:l.length<=255) (b:Bool) (m:List UInt8) (hm:m=[]↔(l.all fun c=>DO c||sU c)=true):BF l=(!sU c&&decide (m=[])):=by
 unfold BF
 have h1:decide (1<=l.length)=true:=by rw[h];simp
 have h2:decide (l.length<=255)=true:=by simp [hl]
 have h3:l.headD 0=c:=by rw[h];rfl
 rw[h1,h2,h3,eI,eI]
 congr 1
 cases e:l.all fun c=>DO c||sU c
 ·rw[eq_comm,bB];intro h;rw[hm.1 h] at e;cases e
 ·rw[eq_comm,bG (hm.2 e)]
theorem aO6 (l:List UInt8) (H:aC) (hl:l.length<=140737488351232):bE prog 102 [.val (.string (lE l))] H fun d H'=>d=.val (.bool (BF l))/\H=H':=by
 have lZ:(lE l).size=l.length:=sG _
 cases l with
 |nil=>
  have q2:((lE []).toList=(⟨#[]⟩:ByteArray).toList)=True:=aK (by rw[xM,BN])
  refine aQ _ _ func102 rfl rfl ntmps102 results102 (by simp) fun w0 g0 Q aD=>?_
  refine tq q2 ?_;intro Nx aB Gx aF
  refine rt aD trivial ?_
  exact⟨_,aG _,rfl,rfl⟩
 |cons c t=>
  obtain⟨l,aS⟩:∃l,l=c::t:=⟨_,rfl⟩
  rw[<-aS] at lZ hl ⊢
  have q2:((lE l).toList=(⟨#[]⟩:ByteArray).toList)=False:=aI (by rw[xM,BN,aS];intro h;cases h)
  by_cases aQD:l.length<=255
  case neg=>
   have q3:((l.length:Int)<=255)=False:=aI (by omega)
   have e0:BF l=false:=by unfold BF;rw[bB aQD];simp
   rw[e0]
   refine aQ _ _ func102 rfl rfl ntmps102 results102 (by simp) fun w0 g0 Q aD=>?_
   refine tq (eA q2 lZ q3) ?_;intro Nx aB Gx aF
   refine rt aD trivial ?_
   exact⟨_,aG _,rfl⟩
  have q3:((l.length:Int)<=255)=True:=aK (by omega)
  have hg:l[0]?=some c:=by rw[aS];rfl
  have cJ:(0:Int)<=0:=rO _
  refine aQ _ _ func102 rfl rfl ntmps102 results102 (by simp) fun w0 g0 Q aD=>?_
  refine tq (jE q2 lZ q3 hg cJ) ?_;intro Nx aB Gx aF
  refine(aRG (lE aG5) (c.toNat:Int) _).mono ?_
  rintro d _ ⟨rfl,rfl⟩
  have hcc:((c.toNat:Nat):Int).toNat.toUInt8=c:=by rw[bI];exact PW
  rw[hcc]
  have hd:=aJu c
  cases hdc:sU c
  ·rw[hdc] at hd
   have q4:(firstIdx (lE aG5) c<0)=True:=aK (CV hd)
   refine tq q4 ?_;intro Nx aB Gx aF
   refine(aIn l _ hl).mono ?_
   rintro d _ ⟨⟨m,rfl,hm⟩,rfl⟩
   have he:=aHX c t aS aQD true m hm
   rw[hdc] at he
   have q5:((lE m).toList=(⟨#[]⟩:ByteArray).toList)=(m=[]):=by rw[xM,BN]
   (first|refine aF _ ?_|refine aB _ ?_|skip)
   refine tq q5 ?_;intro Nx aB Gx aF
   refine rt aD trivial ?_
   exact⟨_,aG _,by rw[he] <;> rfl,rfl⟩
  ·rw[hdc] at hd
   have q4:(firstIdx (lE aG5) c<0)=False:=aI (of_decide_eq_false hd)
   have e0:BF l=false:=by unfold BF;rw[show l.headD 0=c by rw[aS] <;> rfl,hdc];simp
   (first|refine aF _ ?_|refine aB _ ?_|skip)
   refine tq q4 ?_;intro Nx aB Gx aF
   refine rt aD trivial ?_
   exact⟨_,aG _,by rw[e0],rfl⟩
theorem tfS (p:Prop):∃b,p=b/\((b=True/\p)\/(b=False/\¬p)):=⟨p,rfl,by by_cases h:p <;> simp [h]⟩
theorem aFM {l:List UInt8} {i:Nat} {c:UInt8} (hg:l[i]?=some c) (h:DO c=false) (h2:sU c=false\/i=0):BF l=false:=by
 unfold BF
 rcases h2 with h2|h2
 ·have:(l.all fun c=>DO c||sU c)=false:=by
   rw[List.all_eq_false]
   exact⟨c,iQ hg,by rw[h,h2];decide⟩
  rw[this,kI]
 ·subst h2
  cases hd:sU c
  ·have:(l.all fun c=>DO c||sU c)=false:=by
    rw[List.all_eq_false]
    exact⟨c,iQ hg,by rw[h,hd];decide⟩
   rw[this,kI]
  ·have:l.headD 0=c:=by cases l with
    |nil=>cases hg
    |cons a t=>injection hg
   rw[this,hd];simp
theorem aCM {l:List UInt8} (h:∀c∈l,(DO c||sU c)=true) (h2:0<l.length->sU (l.headD 0)=false):BF l=(decide (1<=l.length)&&decide (l.length<=255)):=by
 unfold BF
 have:(l.all fun c=>DO c||sU c)=true:=eZ.2 h
 rw[this,lR]
 by_cases h0:0<l.length
 ·rw[h2 h0,uU,lR]
 ·rw[bB (by omega)];simp
theorem aKs (l : List UInt8) (H : aC) (hl : l.length <= 140737488351232) : bE prog 90 [.val (.string (lE l))] H fun d H' => d = .val (.bool (BF l)) /\ H = H' := by
  have lZ : (lE l).size = l.length := sG _
  refine aQ _ _ func90 rfl rfl ntmps90 results90 (by simp) fun w0 g0 Q aD => ?_
  refine tq trivial ?_; intro Nx aB Gx aF
  refine aZ l.length (fun i s => s.df = [] /\ s.fr 0 = .val (.string (lE l)) /\ s.fr 3 = i64 i /\ s.H = H /\ (∀ c ∈ l.take i, (DO c || sU c) = true) /\ (0 < i -> sU (l.headD 0) = false)) ⟨rfl, rfl, rfl, rfl, (by intro c hc; cases hc), fun h => absurd h (by omega)⟩ ?_
  rintro i s hi ⟨aT, f0, f3, hH, ha, hd⟩
  have hx := bI i
  have cJ := bM i
  by_cases aV : i < l.length
  case neg =>
    have p1 := lF i l.length (by omega)
    rw [cW (by omega)] at ha
    have aAc := aCM ha fun h => hd (by omega)
    have q1 : ((l.length : Int) ≥ 1) = (1 <= l.length) := propext ⟨fun h => by omega, fun h => by omega⟩
    have q2 : ((l.length : Int) <= 255) = (l.length <= 255) := propext ⟨fun h => by omega, fun h => by omega⟩
    by_cases hl1 : 1 <= l.length
    · have q3 : (1 <= l.length) = True := aK hl1
      refine tq (nF f0 f3 p1 lZ q1 q2 q3) ?_; intro Nx aB Gx aF
      refine rt aD aT ?_
      exact ⟨_, aG _, by rw [aAc, bG hl1, eI], hH.symm⟩
    · have q3 : (1 <= l.length) = False := aI hl1
      refine tq (nF f0 f3 p1 lZ q1 q2 q3) ?_; intro Nx aB Gx aF
      refine rt aD aT ?_
      exact ⟨_, aG _, by rw [aAc, bB hl1, gC], hH.symm⟩
  have cC : (i : Int) < (l.length : Int) := by omega
  have p1 : ((i : Int) < (l.length : Int)) = True := aK cC
  have w3 := wS i (by omega)
  have hg : l[i]? = some l[i] := bX aV
  obtain ⟨c, hc⟩ : ∃ c, c = l[i] := ⟨_, rfl⟩
  rw [<- hc] at hg
  have EN : (DO c || sU c) = true -> (i = 0 -> sU c = false) -> (∀ c ∈ l.take (i + 1), (DO c || sU c) = true) /\ (0 < i + 1 -> sU (l.headD 0) = false) := fun h1 h2 => by
    refine ⟨fun x hx => ?_, fun _ => ?_⟩
    · rw [dH aV] at hx
      rcases bV.1 hx with h | h
      · exact ha x h
      · rw [cR.1 h, <- hc]; exact h1
    · by_cases h0 : i = 0
      · have : l.headD 0 = c := by
          cases l with
          | nil => simp at aV
          | cons a t => rw [hc]; simp [h0]
        rw [this]; exact h2 h0
      · exact hd (by omega)
  have HL := fun h h2 => aFM hg h h2
  rcases tfS ((c.toNat : Int) ≥ 97) with ⟨_, p97, ⟨rfl, h97⟩ | ⟨rfl, h97⟩⟩ <;> rcases tfS ((c.toNat : Int) <= 122) with ⟨_, aZQ, ⟨rfl, aXy⟩ | ⟨rfl, aXy⟩⟩ <;> (try (exfalso; omega)) <;>
    rcases tfS ((c.toNat : Int) ≥ 65) with ⟨_, p65, ⟨rfl, h65⟩ | ⟨rfl, h65⟩⟩ <;> (try (exfalso; omega)) <;> rcases tfS ((c.toNat : Int) <= 90) with ⟨_, p90, ⟨rfl, h90⟩ | ⟨rfl, h90⟩⟩ <;> (try (exfalso; omega)) <;>
    rcases tfS ((c.toNat : Int) = 95) with ⟨_, p95, ⟨rfl, h95⟩ | ⟨rfl, h95⟩⟩ <;> (try (exfalso; omega)) <;> rcases tfS ((c.toNat : Int) < 48) with ⟨_, p48, ⟨rfl, h48⟩ | ⟨rfl, h48⟩⟩ <;> (try (exfalso; omega)) <;>
    rcases tfS ((c.toNat : Int) > 57) with ⟨_, p57, ⟨rfl, h57⟩ | ⟨rfl, h57⟩⟩ <;> (try (exfalso; omega)) <;> rcases tfS ((i : Int) = 0) with ⟨_, p0, ⟨rfl, h0⟩ | ⟨rfl, h0⟩⟩
  all_goals (refine tq (aJk f0 f3 p1 lZ hg hx cJ cC w3 p97 aZQ p65 p90 p95 p48 p57 p0) ?_; intro Nx aB Gx aF)
  all_goals first
    | exact ⟨aV, aT, f0, rfl, hH, EN (by unfold DO sU; simp; omega) (by unfold sU; simp; omega)⟩
    | (refine rt aD aT ?_
       exact ⟨_, aG _, by rw [HL (by unfold DO; simp; omega) (by unfold sU; simp; omega)], hH.symm⟩)
theorem aAH (s:ByteArray):∃l:List UInt8,s=lE l/\l.length=s.size:=⟨s.data.toList,by cases s;simp [lE],nB⟩
theorem YK (s:ByteArray) (H:aC) (hs:dO s.size):bE prog 102 [cX s] H fun d H'=>d=.val (.bool (x7 s))/\H=H':=by
 obtain⟨l,rfl,hl⟩:=aAH s
 unfold x7
 rw[pJ]
 exact aO6 l H (by rw[hl];exact hs)
theorem O4 (s:ByteArray) (H:aC) (hs:dO s.size):bE prog 90 [cX s] H fun d H'=>d=.val (.bool (x7 s))/\H=H':=by
 obtain⟨l,rfl,hl⟩:=aAH s
 unfold x7
 rw[pJ]
 exact aKs l H (by rw[hl];exact hs)
def ixS (l:List ByteArray) (s:ByteArray):Nat:=l.findIdx fun x=>decide (x=s)
theorem CE {l:List ByteArray} {s:ByteArray}:ixS l s<l.length↔s∈l:=by
 unfold ixS
 rw[List.findIdx_lt_length]
 constructor
 ·rintro⟨x,hx,e⟩;rw[<-CV e];exact hx
 ·exact fun h=>⟨s,h,bG rfl⟩
theorem aO7 {l:List ByteArray} {s:ByteArray} {i:Nat} (h:i<l.length) (he:l[i]=s) (hn:∀(k:Nat) (hk:k<l.length),k<i->l[k]≠s):ixS l s=i:=by
 unfold ixS
 rw[List.findIdx_eq h]
 exact⟨bG he,fun j hj=>bB (hn j (by omega) hj)⟩
end Go.Proofs.YtfiipaodjpiooaaGreatDoor

