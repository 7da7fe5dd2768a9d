/- Lemmas and contracts of functions, several texts in one. -/
import Derived.Test.YtelbfbioomcmeaaGreatDoorProg
import Derived.Lib.Strings
import Derived.Lib.Bytealg
import Derived.Lib.Walk
import Derived.Laws.Externs
import Derived.WalkKit
import Derived.Test.YtelbfbioomcmeaaGreatDoorQ12
set_option maxRecDepth 100000
set_option maxHeartbeats 4000000
set_option linter.all false
namespace Go.Proofs.YtelbfbioomcmeaaGreatDoor
open Tryz
theorem aXq (s:ByteArray) (c:Int) (w:World):
  Calls prog 269 #[.string s,.int .u8 c] w fun e w'=>e=.returned (.int .i64 (firstIdx s c.toNat.toUInt8))/\w=w':=by
 go_enter func269,ntmps269
 go_wp2
 rw[run_callFunc_extern func354 (by kernel_rfl) (by kernel_rfl) (by kernel_rfl) (e:=Extern.BytealgIndexByte.indexByte) (by kernel_rfl),run_indexByte_string]
 go_wp2
 go_ret
 exact⟨rfl,rfl⟩
end Go.Proofs.YtelbfbioomcmeaaGreatDoor
namespace Go.Proofs.YtelbfbioomcmeaaGreatDoor
open Go.RowKit
theorem xH.len {H H':aA}:∀{ds es:List D},xH H H' ds es->ds.length=es.length
 |[],[],_=>rfl
 |d::ds,e::es,h=>by rw[fN,fN,xH.len h.2]
 |[],_::_,h=>h.elim
 |_::_,[],h=>h.elim
theorem xH.at {H H':aA} {w:World} (hH:fQ w H') {b:Nat}:∀{ds es:List D} {o:Nat},xH H H' ds es->cK w H'.others b o ds->cK w H.others b o es
 |[],[],_,_,h=>by simp only[cK] at h ⊢
 |d::ds,e::es,o,hv,h=>by
  simp only[cK] at h ⊢
  obtain⟨⟨u,h1,h2,h3⟩,h4⟩:=h
  exact⟨⟨u,h1,h2,hv.1 w u hH h3⟩,xH.at hH hv.2 h4⟩
 |[],_::_,_,hv,_=>hv.elim
 |_::_,[],_,hv,_=>hv.elim
def S9 (H H':aA):List (List D)->List (List D)->Prop
 |[],[]=>True
 |d::ds,e::es=>xH H H' d e/\S9 H H' ds es
 |_,_=>False
theorem S9.len {H H':aA}:∀{ds es:List (List D)},S9 H H' ds es->ds.length=es.length
 |[],[],_=>rfl
 |d::ds,e::es,h=>by rw[fN,fN,S9.len h.2]
 |[],_::_,h=>h.elim
 |_::_,[],h=>h.elim
theorem S9.at {H H':aA} {w:World} (hH:fQ w H') {b sz:Nat}:∀{ds es:List (List D)} {o:Nat},S9 H H' ds es->dC w H'.others b sz o ds->dC w H.others b sz o es
 |[],[],_,_,h=>by simp only[dC] at h ⊢
 |d::ds,e::es,o,hv,h=>by
  simp only[dC] at h ⊢
  exact⟨hv.1.len▸h.1,hv.1.at hH h.2.1,S9.at hH hv.2 h.2.2⟩
 |[],_::_,_,hv,_=>hv.elim
 |_::_,[],_,hv,_=>hv.elim
theorem zI (H:aA) (b:Nat) (x y:gB):(H.bH b x).bH b y=H.bH b y:=by
 funext c
 by_cases e:c=b
 ·rw[e,aQ,aQ]
 ·rw[aP e,aP e,aP e]
theorem EY {H:aA} {b:Nat} {x:gB} (h:H b=some x):H.bH b x=H:=by
 funext c
 by_cases e:c=b
 ·rw[e,aQ,h]
 ·rw[aP e]
open Tryz
theorem YT {P:Program} {f:FuncId} {us:List Value} {v:Value} {H:aA} (he:XP P f) (h:∀w,Calls P f us.toArray w fun e w'=>e=.returned v/\w=w'):aT P f (us.map .val) H fun d H'=>d=.val v/\H=H':=
 And.intro he fun w vs sN hH _=>by
  have:vs=us:=by
   clear h
   induction us generalizing vs with
   |nil=>simpa only[pM,aW] using sN
   |cons u us ih=>
    simp only[fT,aW,D.is] at sN
    obtain⟨_,DV,rfl,rfl,h2⟩:=sN
    rw[ih DV h2]
  subst this
  refine(h w).mono ?_
  rintro e w' ⟨rfl,rfl⟩
  exact⟨v,.val v,H,rfl,pA _,hH,gC _ _,rfl,rfl⟩
def aQo (c:UInt8):D:=.val (.int .u8 (c.toNat:Int))
theorem aHQ (s:ByteArray) (c:Int) (H:aA):aT prog 269 [.val (.string s),.val (.int .u8 c)] H fun d H'=>d=i64 (firstIdx s c.toNat.toUInt8)/\H=H':=
 YT (us:=[.string s,.int .u8 c]) (tZ func269 rfl rfl) fun w=>aXq s c w
theorem aJY (s:ByteArray) (c:Int) (H:aA):aT prog 189 [.val (.string s),.val (.int .u8 c)] H fun d H'=>d=i64 (firstIdx s c.toNat.toUInt8)/\H=H':=by
 refine aN _ _ func189 rfl rfl ntmps189 results189 (by simp) fun w0 g0 Q aC=>?_
 refine tq trivial ?_;intro Nx aB Gx aG
 refine(aHQ s c _).mono ?_
 rintro d _ ⟨rfl,rfl⟩
 refine tq trivial ?_;intro Nx aB Gx aG
 refine rt aC trivial ?_
 exact⟨_,aE _,rfl⟩
def tB (p:UInt8->Bool):List D:=(List.range 256).map fun k=>.val (.bool (p (UInt8.ofNat k)))
theorem nE (p:UInt8->Bool):(tB p).length=256:=by unfold tB;rw[bK,List.length_range]
theorem JG (p:UInt8->Bool) {k:Nat} (h:k<256):(tB p)[k]?=some (.val (.bool (p (UInt8.ofNat k)))):=by
 unfold tB;rw[cR,List.getElem?_range h];rfl
theorem aAB (p:UInt8->Bool) (c:UInt8):(tB p).drop c.toNat=.val (.bool (p c))::(tB p).drop (c.toNat+1):=by
 have h:c.toNat<256:=c.toNat_lt
 rw[dI (by rw[nE];exact h)]
 have e:=JG p h
 rw[cP (by rw[nE];exact h),HF] at e
 rw[Option.some.inj e]
theorem aCc (p:UInt8->Bool) (c:UInt8):(tB p).set c.toNat (.val (.bool true))=tB fun x=>p x||x==c:=by
 apply uH
 intro k
 by_cases h:k<256
 ·rw[JG _ h,HH,JG _ h]
  by_cases e:c.toNat=k
  ·subst e
   rw[aH rfl,aH (by rw[nE];exact h),HF];simp
  ·rw[aD e]
   have:(UInt8.ofNat k==c)=false:=by
    rw[beq_eq_false_iff_ne]
    intro e2
    apply e
    rw[<-e2,yJ,wC h]
   rw[this,Bool.or_false]
 ·rw[DG (by rw[DO,nE];omega),DG (by rw[nE];omega)]
theorem aCb (p:UInt8->Bool) (c:UInt8):(tB p).take c.toNat++[.val (.bool true)]++(tB p).drop (c.toNat+1)=tB fun x=>p x||x==c:=by
 rw[<-aCc,List.set_eq_take_append_cons_drop,aH (by rw[nE];exact c.toNat_lt),dN];rfl
theorem HX (p:UInt8->Bool) (c:UInt8) (H:aA):aT prog 355 [.rp (tB p),aQo c] H fun d H'=>d=.val (.bool (p c))/\H=H':=by
 have hc:((c.toNat:Nat):Int).toNat=c.toNat:=bL _
 have h0:(0:Int)<=((c.toNat:Nat):Int):=bY _
 have h1:((c.toNat:Nat):Int)<256:=by have:=c.toNat_lt;omega
 have hd:=aAB p c
 refine aN _ _ func355 rfl rfl ntmps355 results355 (by simp) fun w0 g0 Q aC=>?_
 refine tq (jA @aQo.eq_1 hc h0 h1 hd @rO) ?_;intro Nx aB Gx aG
 refine rt aC trivial ?_
 exact⟨_,aE _,rfl⟩
theorem Y0 (l:List UInt8) (n:Nat) (h:(e8 l).size=n):(e8 l).extract 1 n=e8 (l.drop 1):=by
 apply ByteArray.ext
 rw[G9]
 subst h
 apply kY
 rw[Array.toList_extract,iN,iN,jF,List.extract,dQ (by rw[kG];exact fA _)]
theorem Y1 (l:List UInt8) (n:Nat):(e8 l).extract 0 n=e8 (l.take n):=by
 apply ByteArray.ext
 rw[G9]
 apply kY
 rw[Array.toList_extract,iN,iN]
 simp [List.extract]
theorem aEX (cs:List UInt8) (H:aA) (hc:∀c∈cs,c.toNat<128) (hl:cs.length<1000000):aT prog 272 [.val (.string (e8 cs))] H fun d H'=>d=.fV [.agg (tB fun c=>cs.contains c),.val (.bool true)]/\H=H':=by
 have lE:=jF cs
 have hap:∀l:List D,l++[]=l:=kX
 refine aN _ _ func272 rfl rfl ntmps272 results272 (by simp) fun w0 g0 Q aC=>?_
 refine tq trivial ?_;intro Nx aB Gx aG
 intro c1 l9
 refine aB _ ?_
 refine tq trivial ?_;intro Nx aB Gx aG
 refine bB cs.length (fun i s=>s.df=[]/\s.fr 0=.val (.string (e8 cs))/\s.fr 2=.ep c1 0 256 0 0/\s.fr 4=i64 i/\s.H=H.bH c1 (.row 384 0 256 [tB fun c=>(cs.take i).contains c])) ⟨rfl,rfl,rfl,rfl,?_⟩ ?_
 ·rfl
 rintro i s hi ⟨bG,f0,f2,f4,hH⟩
 have hx:=bL i
 have cL:=bY i
 by_cases aZ:i<cs.length
 case neg=>
  have p1:=lF i cs.length (by omega)
  rw[dQ (by omega)] at hH
  have z1:s.H c1=some (.row 384 0 256 [tB fun c=>cs.contains c]):=by rw[hH];exact aQ _ _ _
  have yX:=nE fun c=>cs.contains c
  have KE:List.drop 256 (tB fun c=>cs.contains c)=[]:=zN (by rw[nE];exact fA _)
  refine tq (yP f0 f2 f4 p1 lE z1 yX KE hap) ?_;intro Nx aB Gx aG
  refine rt aC (cZ f2 yX) ?_
  refine⟨H,?_,rfl⟩
  rw[hH]
  exact bQ (bQ (aE _) l9) l9
 have cN:(i:Int)<(cs.length:Int):=by omega
 have p1:((i:Int)<(cs.length:Int))=True:=aK cN
 have w3:=wS i (by omega)
 have hg:cs[i]?=some cs[i]:=cP aZ
 obtain⟨c,hce⟩:∃c,c=cs[i]:=⟨_,rfl⟩
 have aIl:=hc cs[i] (bZ aZ)
 rw[<-hce] at hg aIl
 have p2:((c.toNat:Int)≥128)=False:=aI (by omega)
 have hcx:((c.toNat:Nat):Int).toNat=c.toNat:=bL _
 have CP:(0:Int)<=((c.toNat:Nat):Int):=bY _
 have aXK:((c.toNat:Nat):Int)<256:=by omega
 have z1:s.H c1=some (.row 384 0 256 [tB fun c=>(cs.take i).contains c]):=by rw[hH];exact aQ _ _ _
 have yX:=nE fun c=>(cs.take i).contains c
 refine tq (aI2 f0 f2 f4 p1 p2 lE hg hx cL cN z1 yX hcx CP aXK @rO w3) ?_;intro Nx aB Gx aG
 refine⟨by omega,?_⟩
 (first|refine aG _ ?_|refine aB _ ?_|skip)
 refine tq (fJ f0 f2 f4 w3) ?_;intro Nx aB Gx aG
 refine⟨aZ,bG,f0,f2,rfl,?_⟩
 show s.H.bH c1 _=_
 rw[aCb,hH,zI,dH aZ]
 refine cV (fun p=>H.bH c1 (.row 384 0 256 [tB p])) (funext fun x=>?_)
 rw[List.contains_append,hce]
 simp
 rfl
def TrR (p:UInt8->Bool) (l:List UInt8) (k:Nat):Prop:=k<=l.length/\(∀c∈l.drop k,p c=true)/\(0<k->∀c,l[k - 1]?=some c->p c=false)
theorem aFQ (p:UInt8->Bool) (l:List UInt8) (H:aA) (hl:l.length<=140737488351232):aT prog 274 [.val (.string (e8 l)),.rp (tB p)] H fun d H'=>(∃k,d=.val (.string (e8 (l.take k)))/\TrR p l k)/\H=H':=by
 refine aN _ _ func274 rfl rfl ntmps274 results274 (by simp) fun w0 g0 Q aC=>?_
 refine tq trivial ?_;intro Nx aB Gx aG
 refine bB l.length (fun i s=>s.df=[]/\s.fr 0=.val (.string (e8 (l.take (l.length - i))))/\s.fr 1=.rp (tB p)/\s.H=H/\∀c∈l.drop (l.length - i),p c=true) ⟨rfl,by rw[Nat.sub_zero,kW] <;> rfl,rfl,rfl,by rw[Nat.sub_zero,List.drop_length];intro c hc;cases hc⟩ ?_
 rintro i s hi ⟨bG,f0,f1,hH,hp⟩
 obtain⟨k,hk⟩:∃k,k=l.length - i:=⟨_,rfl⟩
 rw[<-hk] at f0 hp
 have lE:(e8 (l.take k)).size=k:=by rw[jF,dJ];omega
 by_cases yW:0<k
 case neg=>
  have p1:((k:Int)>0)=False:=aI (by omega)
  refine tq (fJ f0 f1 lE p1) ?_;intro Nx aB Gx aG
  refine rt aC f0 ?_
  exact⟨_,aE _,⟨⟨k,rfl,by omega,hp,fun h=>absurd h yW⟩,hH.symm⟩⟩
 have p1:((k:Int)>0)=True:=aK (by omega)
 have w3:IntKind.i64.wrap ((k:Int) - 1)=((k - 1:Nat):Int):=by rw[aY (by omega)];omega
 have hx:((k - 1:Nat):Int).toNat=k - 1:=bL _
 have cL:(0:Int)<=((k - 1:Nat):Int):=bY _
 have F8:k - 1<l.length:=by omega
 have hg:(l.take k)[k - 1]?=some l[k - 1]:=by rw[List.getElem?_take_of_lt (by omega),cP F8]
 have NU:l[k - 1]?=some l[k - 1]:=cP F8
 obtain⟨c,hc⟩:∃c,c=l[k - 1]:=⟨_,rfl⟩
 rw[<-hc] at hg NU
 refine tq (qN f0 f1 lE p1 w3 hg hx cL) ?_;intro Nx aB Gx aG
 refine(HX p c _).mono ?_
 rintro d _ ⟨rfl,rfl⟩
 cases hpc:p c
 ·refine tq f0 ?_;intro Nx aB Gx aG
  refine rt aC f0 ?_
  exact⟨_,aE _,⟨⟨k,rfl,by omega,hp,fun _ c' eM=>by rw[NU] at eM;injection eM with eM;rw[<-eM];exact hpc⟩,hH.symm⟩⟩
 ·have he:=Y1 (l.take k) (k - 1)
  rw[DQ,uI (by omega)] at he
  have h01:(0:Int)<=((k - 1:Nat):Int):=cL
  have h02:((k - 1:Nat):Int)<=(k:Int):=by omega
  refine tq (lM f0 lE w3 hx h01 h02 he) ?_;intro Nx aB Gx aG
  have aZ:i<l.length:=by omega
  refine⟨aZ,bG,?_,f1,hH,fun c' eM=>?_⟩
  ·rw[show l.length - (i+1)=k - 1 by omega];rfl
  ·rw[show l.length - (i+1)=k - 1 by omega,dI F8,show k - 1+1=k by omega] at eM
   rcases eG.1 eM with h|h
   ·rw[h,<-hc];exact hpc
   ·exact hp c' h
def TrL (p:UInt8->Bool) (l:List UInt8) (k:Nat):Prop:=k<=l.length/\(∀c∈l.take k,p c=true)/\∀c,l[k]?=some c->p c=false
theorem aFP (p:UInt8->Bool) (l:List UInt8) (H:aA) (hl:l.length<=140737488351232):aT prog 273 [.val (.string (e8 l)),.rp (tB p)] H fun d H'=>(∃k,d=.val (.string (e8 (l.drop k)))/\TrL p l k)/\H=H':=by
 refine aN _ _ func273 rfl rfl ntmps273 results273 (by simp) fun w0 g0 Q aC=>?_
 refine tq trivial ?_;intro Nx aB Gx aG
 refine bB l.length (fun i s=>s.df=[]/\s.fr 0=.val (.string (e8 (l.drop i)))/\s.fr 1=.rp (tB p)/\s.H=H/\∀c∈l.take i,p c=true) ⟨rfl,rfl,rfl,rfl,by intro c hc;cases hc⟩ ?_
 rintro i s hi ⟨bG,f0,f1,hH,hp⟩
 have lE:(e8 (l.drop i)).size=l.length - i:=by rw[jF,kG]
 by_cases aZ:i<l.length
 case neg=>
  have p1:(((l.length - i:Nat):Int)>0)=False:=aI (by omega)
  refine tq (fJ f0 f1 lE p1) ?_;intro Nx aB Gx aG
  refine rt aC f0 ?_
  exact⟨_,aE _,⟨⟨i,rfl,by omega,hp,fun c hc=>by rw[DG (by omega)] at hc;cases hc⟩,hH.symm⟩⟩
 have p1:(((l.length - i:Nat):Int)>0)=True:=aK (by omega)
 have NU:l[i]?=some l[i]:=cP aZ
 have hg:(l.drop i)[0]?=some l[i]:=by rw[yL];exact NU
 obtain⟨c,hc⟩:∃c,c=l[i]:=⟨_,rfl⟩
 rw[<-hc] at hg NU
 have cL:(0:Int)<=0:=pU _
 refine tq (jA f0 f1 lE p1 hg cL) ?_;intro Nx aB Gx aG
 refine(HX p c _).mono ?_
 rintro d _ ⟨rfl,rfl⟩
 cases hpc:p c
 ·refine tq f0 ?_;intro Nx aB Gx aG
  refine rt aC f0 ?_
  exact⟨_,aE _,⟨⟨i,rfl,by omega,hp,fun c' eM=>by rw[NU] at eM;injection eM with eM;rw[<-eM];exact hpc⟩,hH.symm⟩⟩
 ·have he:=Y0 (l.drop i) _ lE
  rw[zX] at he
  have h01:(0:Int)<=1:=by decide
  have h02:(1:Int)<=((l.length - i:Nat):Int):=by omega
  have hx1:(1:Int).toNat=1:=rfl
  have PC:((l.length - i:Nat):Int).toNat=l.length - i:=bL _
  refine tq (lM f0 lE hx1 PC h01 h02 he) ?_;intro Nx aB Gx aG
  refine⟨aZ,bG,rfl,f1,hH,fun c' eM=>?_⟩
  rw[dH aZ] at eM
  rcases cS.1 eM with h|h
  ·exact hp c' h
  ·rw[eS.1 h,<-hc];exact hpc
def oD (c:UInt8):Bool:=decide (48<=c.toNat)&&decide (c.toNat<=57)
def xD (c:UInt8):Bool:=(decide (97<=c.toNat)&&decide (c.toNat<=122))||(decide (65<=c.toNat)&&decide (c.toNat<=90))||decide (c.toNat=95)
def uY (l:List UInt8):Bool:=decide (1<=l.length)&&decide (l.length<=255)&& !oD (l.headD 0)&&l.all fun c=>xD c||oD c
def qO (s:ByteArray):Bool:=uY s.data.toList
def aAs:List UInt8:=[48,49,50,51,52,53,54,55,56,57]
def idS:List UInt8:=[95,97,98,99,100,101,102,103,104,105,106,107,108,109,110,111,112,113,114,115,116,117,118,119,120,121,122,65,66,67,68,69,70,71,72,73,74,75,76,77,78,79,80,81,82,83,84,85,86,87,88,89,90,48,49,50,51,52,53,54,55,56,57]
def TF (f:UInt8->Bool):Bool:=(List.range 256).all fun k=>f (UInt8.ofNat k)
theorem KW {f:UInt8->Bool} (h:TF f=true) (c:UInt8):f c=true:=by
 have:=eD.1 h c.toNat (rM.2 c.toNat_lt)
 rwa[HF] at this
theorem aD7 (c:UInt8):decide (firstIdx (e8 aAs) c<0)= !oD c:=by
 have h:TF (fun c=>decide (firstIdx (e8 aAs) c<0)== !oD c)=true:=by decide+kernel
 simpa using KW h c
theorem aHL (c:UInt8):idS.contains c=(xD c||oD c):=by
 have h:TF (fun c=>idS.contains c==(xD c||oD c))=true:=by decide+kernel
 simpa using KW h c
theorem u6:(⟨#[]⟩:ByteArray).toList=[]:=lL []
theorem U1 {p:UInt8->Bool} {l:List UInt8} {k j:Nat} (hk:TrR p l k) (hj:TrL p (l.take k) j):(l.take k).drop j=[]↔(l.all p)=true:=by
 obtain⟨k1,k2,k3⟩:=hk
 obtain⟨j1,j2,j3⟩:=hj
 rw[dJ,uI k1] at j1
 rw[eD]
 constructor
 ·intro h c hc
  have h1:j=k:=by
   have:=cV List.length h
   rw[kG,dJ,uI k1] at this
   simp at this;omega
  rw[<-kV k l] at hc
  rcases cS.1 hc with hc|hc
  ·exact j2 c (by rw[h1,dQ (by rw[dJ];omega)];exact hc)
  ·exact k2 c hc
 ·intro h
  by_cases h0:0<k
  ·have gL:k - 1<l.length:=by omega
   have:=k3 h0 _ (cP gL)
   rw[h _ (bZ gL)] at this
   cases this
  ·have:k=0:=by omega
   subst this
   simp
theorem aCm (l:List UInt8) (H:aA) (hl:l.length<=140737488351232):aT prog 190 [.val (.string (e8 l)),.val (.string (e8 idS))] H fun d H'=>(∃m:List UInt8,d=.val (.string (e8 m))/\(m=[]↔(l.all fun c=>xD c||oD c)=true))/\H=H':=by
 have uS:(fun c=>idS.contains c)=fun c=>xD c||oD c:=funext aHL
 have lE:(e8 idS).size=63:=jF _
 have q1:((e8 idS).toList=(⟨#[]⟩:ByteArray).toList)=False:=aI (by rw[lL,u6];decide)
 have q3:((63:Int)=1)=False:=aI (by decide)
 by_cases h0:l=[]
 ·have q2:((e8 l).toList=(⟨#[]⟩:ByteArray).toList)=True:=aK (by rw[lL,u6];exact h0)
  refine aN _ _ func190 rfl rfl ntmps190 results190 (by simp) fun w0 g0 Q aC=>?_
  refine tq (cZ q1 q2) ?_;intro Nx aB Gx aG
  refine rt aC trivial ?_
  exact⟨_,aE _,⟨l,rfl,by subst h0;simp⟩,rfl⟩
 have q2:((e8 l).toList=(⟨#[]⟩:ByteArray).toList)=False:=aI (by rw[lL,u6];exact h0)
 refine aN _ _ func190 rfl rfl ntmps190 results190 (by simp) fun w0 g0 Q aC=>?_
 refine tq (fJ q1 q2 q3 lE) ?_;intro Nx aB Gx aG
 refine(aEX idS _ (by decide) (by decide)).mono ?_
 rintro d _ ⟨rfl,rfl⟩
 rw[uS]
 have yX:=nE fun c=>xD c||oD c
 refine tq yX ?_;intro Nx aB Gx aG
 intro c1 l9
 refine aB _ ?_
 refine fW 5 l9 ?_
 refine tq trivial ?_;intro Nx aB Gx aG
 refine(aFQ _ l _ hl).mono ?_
 rintro d _ ⟨⟨k,rfl,hk⟩,rfl⟩
 refine tq trivial ?_;intro Nx aB Gx aG
 refine(aFP _ (l.take k) _ (by rw[dJ];omega)).mono ?_
 rintro d _ ⟨⟨j,rfl,hj⟩,rfl⟩
 refine tq trivial ?_;intro Nx aB Gx aG
 refine rt aC trivial ?_
 exact⟨_,aE _,⟨_,rfl,U1 hk hj⟩,rfl⟩
theorem aBp {l:List UInt8} (c:UInt8) (t:List UInt8) (h:l=c::t) (hl:l.length<=255) (b:Bool) (m:List UInt8) (hm:m=[]↔(l.all fun c=>xD c||oD c)=true):uY l=(!oD c&&decide (m=[])):=by
 unfold uY
 have h1:decide (1<=l.length)=true:=by rw[h];simp
 have h2:decide (l.length<=255)=true:=by simp [hl]
 have h3:l.headD 0=c:=by rw[h];rfl
 rw[h1,h2,h3,cT,cT]
 congr 1
 cases e:l.all fun c=>xD c||oD c
 ·rw[eq_comm,bC];intro h;rw[hm.1 h] at e;cases e
 ·rw[eq_comm,bF (hm.2 e)]
theorem aHP (l:List UInt8) (H:aA) (hl:l.length<=140737488351232):aT prog 87 [.val (.string (e8 l))] H fun d H'=>d=.val (.bool (uY l))/\H=H':=by
 have lE:(e8 l).size=l.length:=jF _
 cases l with
 |nil=>
  have q2:((e8 []).toList=(⟨#[]⟩:ByteArray).toList)=True:=aK (by rw[lL,u6])
  refine aN _ _ func87 rfl rfl ntmps87 results87 (by simp) fun w0 g0 Q aC=>?_
  refine tq q2 ?_;intro Nx aB Gx aG
  refine rt aC trivial ?_
  exact⟨_,aE _,rfl,rfl⟩
 |cons c t=>
  obtain⟨l,aR⟩:∃l,l=c::t:=⟨_,rfl⟩
  rw[<-aR] at lE hl ⊢
  have q2:((e8 l).toList=(⟨#[]⟩:ByteArray).toList)=False:=aI (by rw[lL,u6,aR];intro h;cases h)
  by_cases aId:l.length<=255
  case neg=>
   have q3:((l.length:Int)<=255)=False:=aI (by omega)
   have e0:uY l=false:=by unfold uY;rw[bC aId];simp
   rw[e0]
   refine aN _ _ func87 rfl rfl ntmps87 results87 (by simp) fun w0 g0 Q aC=>?_
   refine tq (dZ q2 lE q3) ?_;intro Nx aB Gx aG
   refine rt aC trivial ?_
   exact⟨_,aE _,rfl⟩
  have q3:((l.length:Int)<=255)=True:=aK (by omega)
  have hg:l[0]?=some c:=by rw[aR];rfl
  have cL:(0:Int)<=0:=pU _
  refine aN _ _ func87 rfl rfl ntmps87 results87 (by simp) fun w0 g0 Q aC=>?_
  refine tq (gE q2 lE q3 hg cL) ?_;intro Nx aB Gx aG
  refine(aJY (e8 aAs) (c.toNat:Int) _).mono ?_
  rintro d _ ⟨rfl,rfl⟩
  have ZB:((c.toNat:Nat):Int).toNat.toUInt8=c:=by rw[bL];exact HF
  rw[ZB]
  have hd:=aD7 c
  cases hdc:oD c
  ·rw[hdc] at hd
   have q4:(firstIdx (e8 aAs) c<0)=True:=aK (zU hd)
   refine tq q4 ?_;intro Nx aB Gx aG
   refine(aCm l _ hl).mono ?_
   rintro d _ ⟨⟨m,rfl,hm⟩,rfl⟩
   have he:=aBp c t aR aId true m hm
   rw[hdc] at he
   have q5:((e8 m).toList=(⟨#[]⟩:ByteArray).toList)=(m=[]):=by rw[lL,u6]
   (first|refine aG _ ?_|refine aB _ ?_|skip)
   refine tq q5 ?_;intro Nx aB Gx aG
   refine rt aC trivial ?_
   exact⟨_,aE _,by rw[he] <;> rfl,rfl⟩
  ·rw[hdc] at hd
   have q4:(firstIdx (e8 aAs) c<0)=False:=aI (of_decide_eq_false hd)
   have e0:uY l=false:=by unfold uY;rw[show l.headD 0=c by rw[aR] <;> rfl,hdc];simp
   (first|refine aG _ ?_|refine aB _ ?_|skip)
   refine tq q4 ?_;intro Nx aB Gx aG
   refine rt aC trivial ?_
   exact⟨_,aE _,by rw[e0],rfl⟩
theorem tfS (p:Prop):∃b,p=b/\((b=True/\p)\/(b=False/\¬p)):=⟨p,rfl,by by_cases h:p <;> simp [h]⟩
theorem ZO {l:List UInt8} {i:Nat} {c:UInt8} (hg:l[i]?=some c) (h:xD c=false) (h2:oD c=false\/i=0):uY l=false:=by
 unfold uY
 rcases h2 with h2|h2
 ·have:(l.all fun c=>xD c||oD c)=false:=by
   rw[List.all_eq_false]
   exact⟨c,jQ hg,by rw[h,h2];decide⟩
  rw[this,kH]
 ·subst h2
  cases hd:oD c
  ·have:(l.all fun c=>xD c||oD c)=false:=by
    rw[List.all_eq_false]
    exact⟨c,jQ hg,by rw[h,hd];decide⟩
   rw[this,kH]
  ·have:l.headD 0=c:=by cases l with
    |nil=>cases hg
    |cons a t=>injection hg
   rw[this,hd];simp
theorem UE {l:List UInt8} (h:∀c∈l,(xD c||oD c)=true) (h2:0<l.length->oD (l.headD 0)=false):uY l=(decide (1<=l.length)&&decide (l.length<=255)):=by
 unfold uY
 have:(l.all fun c=>xD c||oD c)=true:=eD.2 h
 rw[this,nW]
 by_cases h0:0<l.length
 ·rw[h2 h0,tQ,nW]
 ·rw[bC (by omega)];simp
theorem aEO (l : List UInt8) (H : aA) (hl : l.length <= 140737488351232) : aT prog 6 [.val (.string (e8 l))] H fun d H' => d = .val (.bool (uY l)) /\ H = H' := by
  have lE : (e8 l).size = l.length := jF _
  refine aN _ _ func6 rfl rfl ntmps6 results6 (by simp) fun w0 g0 Q aC => ?_
  refine tq trivial ?_; intro Nx aB Gx aG
  refine bB l.length (fun i s => s.df = [] /\ s.fr 0 = .val (.string (e8 l)) /\ s.fr 3 = i64 i /\ s.H = H /\ (∀ c ∈ l.take i, (xD c || oD c) = true) /\ (0 < i -> oD (l.headD 0) = false)) ⟨rfl, rfl, rfl, rfl, (by intro c hc; cases hc), fun h => absurd h (by omega)⟩ ?_
  rintro i s hi ⟨bG, f0, f3, hH, ha, hd⟩
  have hx := bL i
  have cL := bY i
  by_cases aZ : i < l.length
  case neg =>
    have p1 := lF i l.length (by omega)
    rw [dQ (by omega)] at ha
    have QS := UE ha fun h => hd (by omega)
    have q1 : ((l.length : Int) ≥ 1) = (1 <= l.length) := propext ⟨fun h => by omega, fun h => by omega⟩
    have q2 : ((l.length : Int) <= 255) = (l.length <= 255) := propext ⟨fun h => by omega, fun h => by omega⟩
    by_cases EE : 1 <= l.length
    · have q3 : (1 <= l.length) = True := aK EE
      refine tq (lM f0 f3 p1 lE q1 q2 q3) ?_; intro Nx aB Gx aG
      refine rt aC bG ?_
      exact ⟨_, aE _, by rw [QS, bF EE, cT], hH.symm⟩
    · have q3 : (1 <= l.length) = False := aI EE
      refine tq (lM f0 f3 p1 lE q1 q2 q3) ?_; intro Nx aB Gx aG
      refine rt aC bG ?_
      exact ⟨_, aE _, by rw [QS, bC EE, fS], hH.symm⟩
  have cN : (i : Int) < (l.length : Int) := by omega
  have p1 : ((i : Int) < (l.length : Int)) = True := aK cN
  have w3 := wS i (by omega)
  have hg : l[i]? = some l[i] := cP aZ
  obtain ⟨c, hc⟩ : ∃ c, c = l[i] := ⟨_, rfl⟩
  rw [<- hc] at hg
  have CV : (xD c || oD c) = true -> (i = 0 -> oD c = false) -> (∀ c ∈ l.take (i + 1), (xD c || oD c) = true) /\ (0 < i + 1 -> oD (l.headD 0) = false) := fun h1 h2 => by
    refine ⟨fun x hx => ?_, fun _ => ?_⟩
    · rw [dH aZ] at hx
      rcases cS.1 hx with h | h
      · exact ha x h
      · rw [eS.1 h, <- hc]; exact h1
    · by_cases h0 : i = 0
      · have : l.headD 0 = c := by
          cases l with
          | nil => simp at aZ
          | cons a t => rw [hc]; simp [h0]
        rw [this]; exact h2 h0
      · exact hd (by omega)
  have BK := fun h h2 => ZO hg h h2
  rcases tfS ((c.toNat : Int) ≥ 97) with ⟨_, p97, ⟨rfl, h97⟩ | ⟨rfl, h97⟩⟩ <;> rcases tfS ((c.toNat : Int) <= 122) with ⟨_, aXw, ⟨rfl, aXC⟩ | ⟨rfl, aXC⟩⟩ <;> (try (exfalso; omega)) <;>
    rcases tfS ((c.toNat : Int) ≥ 65) with ⟨_, p65, ⟨rfl, h65⟩ | ⟨rfl, h65⟩⟩ <;> (try (exfalso; omega)) <;> rcases tfS ((c.toNat : Int) <= 90) with ⟨_, p90, ⟨rfl, h90⟩ | ⟨rfl, h90⟩⟩ <;> (try (exfalso; omega)) <;>
    rcases tfS ((c.toNat : Int) = 95) with ⟨_, p95, ⟨rfl, h95⟩ | ⟨rfl, h95⟩⟩ <;> (try (exfalso; omega)) <;> rcases tfS ((c.toNat : Int) < 48) with ⟨_, p48, ⟨rfl, h48⟩ | ⟨rfl, h48⟩⟩ <;> (try (exfalso; omega)) <;>
    rcases tfS ((c.toNat : Int) > 57) with ⟨_, p57, ⟨rfl, h57⟩ | ⟨rfl, h57⟩⟩ <;> (try (exfalso; omega)) <;> rcases tfS ((i : Int) = 0) with ⟨_, p0, ⟨rfl, h0⟩ | ⟨rfl, h0⟩⟩
  all_goals (refine tq (aI2 f0 f3 p1 lE hg hx cL cN w3 p97 aXw p65 p90 p95 p48 p57 p0) ?_; intro Nx aB Gx aG)
  all_goals first
    | exact ⟨aZ, bG, f0, rfl, hH, CV (by unfold xD oD; simp; omega) (by unfold oD; simp; omega)⟩
    | (refine rt aC bG ?_
       exact ⟨_, aE _, by rw [BK (by unfold xD; simp; omega) (by unfold oD; simp; omega)], hH.symm⟩)
theorem HQ (s:ByteArray):∃l:List UInt8,s=e8 l/\l.length=s.size:=⟨s.data.toList,by cases s;simp [e8],jS⟩
theorem EH (s:ByteArray) (H:aA) (hs:fC s.size):aT prog 87 [bX s] H fun d H'=>d=.val (.bool (qO s))/\H=H':=by
 obtain⟨l,rfl,hl⟩:=HQ s
 unfold qO
 rw[iN]
 exact aHP l H (by rw[hl];exact hs)
theorem GZ (s:ByteArray) (H:aA) (hs:fC s.size):aT prog 6 [bX s] H fun d H'=>d=.val (.bool (qO s))/\H=H':=by
 obtain⟨l,rfl,hl⟩:=HQ s
 unfold qO
 rw[iN]
 exact aEO l H (by rw[hl];exact hs)
def FM (l:List ByteArray) (s:ByteArray):Nat:=l.findIdx fun x=>decide (x=s)
theorem qP {l:List ByteArray} {s:ByteArray}:FM l s<l.length↔s∈l:=by
 unfold FM
 rw[List.findIdx_lt_length]
 constructor
 ·rintro⟨x,hx,e⟩;rw[<-zU e];exact hx
 ·exact fun h=>⟨s,h,bF rfl⟩
theorem aBt {l:List ByteArray} {s:ByteArray} {i:Nat} (h:i<l.length) (he:l[i]=s) (hn:∀(k:Nat) (hk:k<l.length),k<i->l[k]≠s):FM l s=i:=by
 unfold FM
 rw[List.findIdx_eq h]
 exact⟨bF he,fun j hj=>bC (hn j (by omega) hj)⟩
end Go.Proofs.YtelbfbioomcmeaaGreatDoor

