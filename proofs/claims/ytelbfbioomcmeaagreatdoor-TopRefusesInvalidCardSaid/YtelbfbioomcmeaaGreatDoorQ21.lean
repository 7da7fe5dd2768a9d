/- Lemmas and contracts of functions, several texts in one. -/
import Derived.Test.YtelbfbioomcmeaaGreatDoorQ12
set_option maxRecDepth 100000
set_option maxHeartbeats 4000000
set_option linter.all false
namespace Go.Proofs.YtelbfbioomcmeaaGreatDoor
open Go.RowKit
def KA (x:Int×Int):Int:=if x.1≠0/\x.1≠1 then 14 else if x.1=0/\x.2≠0 then 2 else if x.2<0 then 3 else 0
def pY:List (Int×Int)->Int
 |[]=>0
 |x::l=>if KA x≠0 then KA x else pY l
def iJ (p:pO):Int:=if p.lo<0 then 3 else if 32<p.pr.length then 19 else pY p.pr
def iH (ts:List cQ) (i:Int) (x:Int×Int):Int×Int:=
 if x.1=0/\(cJ ts i).k=3 then ((cJ ts i).e,0) else if x.1=1/\(cJ ts i).k=4 then (if x.2<(cJ ts i).ar.length then ((cJ ts i).ar.getD x.2.toNat 0,0) else (0,3)) else (0,22)
def zH (ts:List cQ):Int->List (Int×Int)->Int×Int
 |i,[]=>(i,0)
 |i,x::l=>if (iH ts i x).2≠0 then iH ts i x else zH ts (iH ts i x).1 l
def vR (ts:List cQ):Int->List (Int×Int)->List cQ
 |_,[]=>[]
 |i,x::l=>(if x.1=0 then [cJ ts i] else [])++vR ts (iH ts i x).1 l
def sO (lc:List tD) (a:Int):tD:=lc.getD a.toNat ⟨ByteArray.empty,0⟩
def bU (ts:List cQ) (lc:List tD) (p:pO):Int×Int:=
 if iJ p≠0 then (0,iJ p) else if (lc.length:Int)<=p.lo then (0,3) else zH ts (sO lc p.lo).ty p.pr
def nZ (ts:List cQ) (lc:List tD) (p:pO):List cQ:=if (bU ts lc p).2≠0 then [] else vR ts (sO lc p.lo).ty p.pr
def sP (ts:List cQ) (lc:List tD) (p:pO):Bool:=decide ((bU ts lc p).2=0)&&(nZ ts lc p).all (·.m)
def EO (ts:List cQ) (lc:List tD) (p:pO):List Int:=(nZ ts lc p).map (·.r)
def tL (p:pO) (k:Nat):Bool:=(p.pr.drop k).any fun x=>decide (x.1=0)
def S7 (ts:List cQ) (lc:List tD):Prop:=∀x∈lc,dG ts.length x.ty
theorem aEa {ts:List cQ} {i:Int} {x:Int×Int} (h:(iH ts i x).2≠0):(iH ts i x).1=0:=by
 unfold iH at h ⊢
 split
 ·rename_i h1;rw[aH h1] at h;exact absurd rfl h
 ·rename_i h1
  rw[aD h1] at h
  split
  ·rename_i h2
   rw[aH h2] at h
   split
   ·rename_i h3;rw[aH h3] at h;exact absurd rfl h
   ·rfl
  ·rfl
theorem US {ts:List cQ} (hw:vY ts) {i:Int} {x:Int×Int} (hi:dG ts.length i) (h:(iH ts i x).2=0):dG ts.length (iH ts i x).1:=by
 have hwa:=v7 hw hi
 have DU:=hi
 unfold dG at DU ⊢
 unfold iH at h ⊢
 split
 ·rename_i h1
  have:=hwa.1 h1.2
  simp only;omega
 ·rename_i h1
  rw[aD h1] at h
  split
  ·rename_i h2
   rw[aH h2] at h
   split
   ·rename_i h3
    have hm:∀y∈(cJ ts i).ar,0<=y/\y<i:=hwa.2
    by_cases h4:x.2.toNat<(cJ ts i).ar.length
    ·rw[l6,cP h4]
     have:=hm _ (bZ h4)
     simp only[wB];omega
    ·rw[l6,DG (by omega)]
     simp only[Option.getD_none];omega
   ·rename_i h3;rw[aD h3] at h;cases h
  ·rename_i h2;rw[aD h2] at h;cases h
theorem L8 {ts:List cQ} {i:Int} {x:Int×Int} {l:List (Int×Int)} (h:(iH ts i x).2≠0):zH ts i (x::l)=iH ts i x:=aH h
theorem C9 {ts:List cQ} {i:Int} {x:Int×Int} {l:List (Int×Int)} (h:(iH ts i x).2=0):zH ts i (x::l)=zH ts (iH ts i x).1 l:=aD fun k=>k h
theorem JN {ts:List cQ} {x:Int×Int}:∀{l:List (Int×Int)} {i:Int},(zH ts i l).2≠0->zH ts i (l++[x])=zH ts i l
 |[],i,h=>absurd rfl h
 |y::l,i,h=>by
  rw[eT]
  by_cases h1:(iH ts i y).2=0
  ·rw[C9 h1] at h
   rw[C9 h1,C9 h1]
   exact JN h
  ·rw[L8 h1,L8 h1]
theorem JO {ts:List cQ} {x:Int×Int}:∀{l:List (Int×Int)} {i:Int},(zH ts i l).2=0->zH ts i (l++[x])=iH ts (zH ts i l).1 x
 |[],i,h=>by
  show zH ts i [x]=iH ts i x
  by_cases h1:(iH ts i x).2=0
  ·rw[C9 h1]
   show((iH ts i x).1,(0:Int))=iH ts i x
   rw[<-h1]
  ·rw[L8 h1]
 |y::l,i,h=>by
  rw[eT]
  by_cases h1:(iH ts i y).2=0
  ·rw[C9 h1] at h
   rw[C9 h1,C9 h1]
   exact JO h
  ·rw[L8 h1] at h
   exact absurd h h1
theorem U2 {ts:List cQ} (hw:vY ts):∀(l:List (Int×Int)) (i:Int),dG ts.length i->(zH ts i l).2=0->dG ts.length (zH ts i l).1
 |[],i,hi,_=>hi
 |x::l,i,hi,h=>by
  simp only[zH] at h ⊢
  by_cases h1:(iH ts i x).2≠0
  ·rw[aH h1] at h;exact absurd h h1
  ·rw[aD h1] at h ⊢
   exact U2 hw l _ (US hw hi (kF h1)) h
theorem XI {ts:List cQ}:∀(l:List (Int×Int)) (i:Int),(zH ts i l).2≠0->(zH ts i l).1=0
 |[],i,h=>absurd rfl h
 |x::l,i,h=>by
  simp only[zH] at h ⊢
  by_cases h1:(iH ts i x).2≠0
  ·rw[aH h1];exact aEa h1
  ·rw[aD h1] at h ⊢;exact XI l _ h
theorem RD {lc:List tD} {a:Int} (h:0<=a/\a<lc.length):∃h',sO lc a=lc[a.toNat]'h':=by
 refine⟨by omega,?_⟩
 unfold sO
 rw[l6,cP (by omega)];rfl
theorem pP {p:pO} (h:iJ p=0):0<=p.lo/\p.pr.length<=32/\pY p.pr=0:=by
 unfold iJ at h
 split at h
 ·cases h
 ·split at h
  ·cases h
  ·exact⟨by omega,by omega,h⟩
theorem HT:∀{l:List (Int×Int)},pY l=0->∀x∈l,(x.1=0\/x.1=1)/\0<=x.2
 |x::l,h,y,hy=>by
  simp only[pY] at h
  by_cases h1:KA x≠0
  ·rw[aH h1] at h;exact absurd h h1
  ·rw[aD h1] at h
   rcases eG.1 hy with rfl|hy
   ·have h2:KA y=0:=kF h1
    unfold KA at h2
    split at h2
    ·cases h2
    ·rename_i h3
     split at h2
     ·cases h2
     ·split at h2
      ·cases h2
      ·omega
   ·exact HT h y hy
theorem rY {ts:List cQ} {lc:List tD} {p:pO} (h:(bU ts lc p).2=0):iJ p=0/\(0<=p.lo/\p.lo<lc.length)/\bU ts lc p=zH ts (sO lc p.lo).ty p.pr:=by
 unfold bU at h ⊢
 by_cases h1:iJ p≠0
 ·rw[aH h1] at h;exact absurd h h1
 ·have Y6:iJ p=0:=kF h1
  rw[aD h1] at h ⊢
  by_cases h2:(lc.length:Int)<=p.lo
  ·rw[aH h2] at h;cases h
  ·rw[aD h2] at h ⊢
   exact⟨Y6,⟨(pP Y6).1,by omega⟩,rfl⟩
theorem G0 {ts:List cQ} {lc:List tD} (hl:S7 ts lc) {a:Int} (h:0<=a/\a<lc.length):dG ts.length (sO lc a).ty:=by
 obtain⟨h',e⟩:=RD h
 rw[e];exact hl _ (bZ h')
theorem L9 {ts:List cQ} {lc:List tD} {p:pO} (hw:vY ts) (hl:S7 ts lc) (h:(bU ts lc p).2=0):dG ts.length (bU ts lc p).1:=by
 obtain⟨_,h2,h3⟩:=rY h
 rw[h3] at h ⊢
 exact U2 hw _ _ (G0 hl h2) h
def qH (ts:List cQ):Nat->Int×Int->List (Int×Int)->List (Nat×Int×Int)
 |k,s,[]=>[(k,s)]
 |k,s,x::l=>(k,s)::(if s.2≠0 then [] else qH ts (k+1) (iH ts s.1 x) l)
def qT (ts:List cQ) (lc:List tD) (p:pO):List (Nat×Int×Int):=
 if iJ p≠0 then [(0,0,iJ p)] else if (lc.length:Int)<=p.lo then [(0,0,3)] else qH ts 0 ((sO lc p.lo).ty,0) p.pr
theorem L6 (ts:List cQ):∀(l:List (Int×Int)) (k:Nat) (s:Int×Int),∃j,(qH ts k s l).getLast?=some (j,if s.2≠0 then s else zH ts s.1 l)
 |[],k,s=>⟨k,by
  show some (k,s)=_
  by_cases h:s.2=0
  ·rw[aD (fun h'=>h' h)];show _=some (k,s.1,(0:Int));rw[<-h]
  ·rw[aH h]⟩
 |x::l,k,s=>by
  simp only[qH]
  by_cases h:s.2=0
  ·rw[aD (fun h'=>h' h),aD (fun h'=>h' h)]
   obtain⟨j,hj⟩:=L6 ts l (k+1) (iH ts s.1 x)
   refine⟨j,?_⟩
   cases e:qH ts (k+1) (iH ts s.1 x) l with
   |nil=>rw[e] at hj;cases hj
   |cons a m=>rw[List.getLast?_cons_cons,<-e,hj];rfl
  ·rw[aH h,aH h];exact⟨k,rfl⟩
theorem L7 (ts:List cQ) (lc:List tD) (p:pO):∃j,(qT ts lc p).getLast?=some (j,bU ts lc p):=by
 unfold qT bU
 by_cases h1:iJ p=0
 ·have n1:¬iJ p≠0:=fun h=>h h1
  rw[aD n1,aD n1]
  by_cases h2:(lc.length:Int)<=p.lo
  ·rw[aH h2,aH h2];exact⟨0,rfl⟩
  ·rw[aD h2,aD h2]
   obtain⟨j,hj⟩:=L6 ts p.pr 0 ((sO lc p.lo).ty,0)
   exact⟨j,hj⟩
 ·rw[aH h1,aH h1];exact⟨0,rfl⟩
theorem XE {ts:List cQ} (hw:vY ts):∀(l:List (Int×Int)) (k:Nat) (s:Int×Int),(s.2=0->dG ts.length s.1)->∀x∈qH ts k s l,x.2.2=0->dG ts.length x.2.1
 |[],k,s,hs,x,hx,h0=>by
  simp only[qH,eS] at hx
  subst hx;exact hs h0
 |y::l,k,s,hs,x,hx,h0=>by
  simp only[qH] at hx
  rcases eG.1 hx with rfl|hx
  ·exact hs h0
  ·by_cases h:s.2=0
   ·rw[aD (fun h'=>h' h)] at hx
    exact XE hw l _ _ (fun h2=>US hw (hs h) h2) x hx h0
   ·rw[aH h] at hx;cases hx
theorem aFI {ts:List cQ} {lc:List tD} {p:pO} (hw:vY ts) (hl:S7 ts lc) {x:Nat×Int×Int} (hx:x∈qT ts lc p) (h0:x.2.2=0):dG ts.length x.2.1:=by
 unfold qT at hx
 by_cases h1:iJ p=0
 ·rw[aD (fun h'=>h' h1)] at hx
  by_cases h2:(lc.length:Int)<=p.lo
  ·rw[aH h2] at hx
   rw[eS] at hx;subst hx;cases h0
  ·rw[aD h2] at hx
   exact XE hw _ _ _ (fun _=>G0 hl ⟨(pP h1).1,by omega⟩) x hx h0
 ·rw[aH h1] at hx
  rw[eS] at hx;subst hx;exact absurd h0 h1
theorem SD {ts:List cQ}:∀(l:List (Int×Int)) (k:Nat) (s:Int×Int),∀x∈qH ts k s l,x.2.2≠0->(if s.2≠0 then s else zH ts s.1 l)=x.2
 |[],k,s,x,hx,h0=>by
  simp only[qH,eS] at hx
  subst hx;exact aH h0
 |y::l,k,s,x,hx,h0=>by
  simp only[qH] at hx
  rcases eG.1 hx with rfl|hx
  ·exact aH h0
  ·by_cases h:s.2=0
   ·rw[aD (fun h'=>h' h)] at hx ⊢
    exact SD l _ _ x hx h0
   ·rw[aH h] at hx;cases hx
theorem SF {ts:List cQ} {lc:List tD} {p:pO} {x:Nat×Int×Int} (hx:x∈qT ts lc p) (h0:x.2.2≠0):(bU ts lc p).2≠0:=by
 unfold qT at hx
 unfold bU
 by_cases h1:iJ p=0
 ·rw[aD (fun h'=>h' h1)] at hx ⊢
  by_cases h2:(lc.length:Int)<=p.lo
  ·rw[aH h2];simp
  ·rw[aD h2] at hx ⊢
   have:=SD _ _ _ x hx h0
   rw[aD (fun h'=>h' rfl)] at this
   simp only at this
   rw[this];exact h0
 ·rw[aH h1];exact h1
def AQ (ts:List cQ) (pr:List (Int×Int)) (pre:List (Nat×Int×Int)):List cQ:=pre.flatMap fun x=>if x.1<pr.length/\(pr.getD x.1 (1,0)).1=0 then [cJ ts x.2.1] else []
theorem R5 {ts:List cQ} {pr:List (Int×Int)}:∀(l:List (Int×Int)) (k:Nat) (s:Int×Int),pr.drop k=l->(∀x∈qH ts k s l,x.2.2=0)->AQ ts pr (qH ts k s l)=vR ts s.1 l
 |[],k,s,hd,hz=>by
  have hk:¬k<pr.length:=fun h=>by
   have:=cV List.length hd
   rw[kG,mS] at this;omega
  simp [AQ,qH,vR,hk]
 |y::l,k,s,hd,hz=>by
  have hk:k<pr.length:=by
   have:=cV List.length hd
   rw[kG,fN] at this;omega
  have hy:pr.getD k (1,0)=y:=by
   rw[dI hk] at hd
   injection hd with hd _
   rw[l6,cP hk,<-hd];rfl
  have hd2:pr.drop (k+1)=l:=by
   rw[dI hk] at hd
   injection hd
  have hs:s.2=0:=hz (k,s) (by simp [qH])
  have h2:∀x∈qH ts (k+1) (iH ts s.1 y) l,x.2.2=0:=fun x hx=>hz x (by
   simp only[qH]
   rw[aD (fun h'=>h' hs)]
   exact jR _ hx)
  have ih:=R5 l (k+1) (iH ts s.1 y) hd2 h2
  simp only[qH]
  rw[aD (fun h'=>h' hs)]
  unfold AQ at ih ⊢
  rw[wO,ih,vR,hy]
  simp [hk]
theorem aCZ {ts:List cQ} {lc:List tD} {p:pO} (h:(bU ts lc p).2=0):AQ ts p.pr (qT ts lc p)=vR ts (sO lc p.lo).ty p.pr:=by
 have hz:∀x∈qT ts lc p,x.2.2=0:=fun x hx=>kF fun h0=>SF hx h0 h
 obtain⟨h1,h2,_⟩:=rY h
 unfold qT at hz ⊢
 rw[aD (fun h'=>h' h1),aD (by omega)] at hz ⊢
 exact R5 _ _ _ rfl hz
theorem Z7 (ts:List cQ) (pr:List (Int×Int)) (pre:List (Nat×Int×Int)) (x:Nat×Int×Int):AQ ts pr (pre++[x])=AQ ts pr pre++(if x.1<pr.length/\(pr.getD x.1 (1,0)).1=0 then [cJ ts x.2.1] else []):=by
 unfold AQ;rw[pI];simp
theorem SE {ts:List cQ}:∀(l:List (Int×Int)) (k:Nat) (s:Int×Int),(qH ts k s l).length<=l.length+1
 |[],k,s=>by simp [qH]
 |y::l,k,s=>by
  simp only[qH]
  split
  ·simp
  ·have:=SE (ts:=ts) l (k+1) (iH ts s.1 y)
   simp only[fN];omega
theorem aCi {ts:List cQ} {lc:List tD} {p:pO}:(qT ts lc p).length<=33:=by
 unfold qT
 by_cases h1:iJ p=0
 ·rw[aD (fun h'=>h' h1)]
  split
  ·simp
  ·have:=SE (ts:=ts) p.pr 0 ((sO lc p.lo).ty,0)
   have:=(pP h1).2.1
   omega
 ·rw[aH h1];simp
def u7 (S:List Int) (x:Int):Option D:=if x∈S then some (.val (.bool true)) else none
theorem JM (x:Int) (S:List Int):∀y,(if y=x then some (D.val (.bool true)) else u7 S y)=u7 (x::S) y:=fun y=>by
 unfold u7
 by_cases h:y=x
 ·subst h;simp
 ·rw[aD h]
  have:(y∈x::S)=(y∈S):=by simp [h]
  simp only[this]
theorem aAK:∀y,(none:Option D)=u7 [] y:=fun y=>by simp [u7]
theorem EK:∀(N:Nat) (S:List Nat),S.Nodup->(∀x∈S,x<N)->S.length<=N
 |0,S,_,h=>by
  cases S with
  |nil=>simp
  |cons x S=>exact absurd (h x (by simp)) (by omega)
 |N+1,S,hn,h=>by
  by_cases hm:N∈S
  ·have h1:=EK N (S.erase N) (hn.erase N) fun x hx=>by
    have h2:=(hn.mem_erase_iff).1 hx
    have:=h x h2.2
    omega
   rw[List.length_erase_of_mem hm] at h1
   omega
  ·have:=EK N S hn fun x hx=>by
    have:=h x hx
    have:x≠N:=fun e=>hm (e▸hx)
    omega
   omega
theorem C1 {n:Int} {S:List Int} (hn:S.Nodup) (h:∀x∈S,dG n x):S.length<=n.toNat:=by
 have:=EK n.toNat (S.map Int.toNat) (by
  rw[List.nodup_iff_pairwise_ne,List.pairwise_map]
  rw[List.nodup_iff_pairwise_ne] at hn
  refine List.Pairwise.imp_of_mem ?_ hn
  intro a b ha hb hab e
  have h1:=h a ha
  have h2:=h b hb
  unfold dG at h1 h2
  exact hab (by omega)) (fun x hx=>by
   obtain⟨y,hy,rfl⟩:=mT.1 hx
   have:=h y hy
   unfold dG at this
   omega)
 simpa using this
open Tryz
def KB (a b:Int):Int:=if a<b then -1 else if b<a then 1 else 0
theorem aFh (a:Int) (H:aA):aT prog 318 [i64 a] H fun d H'=>d=.val (.bool false)/\H=H':=by
 refine aN _ _ func318 rfl rfl ntmps318 results318 (by simp) fun w0 g0 Q aC=>?_
 (have fs:=trivial;(repeat(first|refine bO ?_|refine cC ?_|refine cX ?_|refine cW ?_|refine eH ?_|refine cF ?_|refine cG ?_|((first|refine gN (by kernel_rfl) ?_|refine qM ?_|refine gM (by kernel_rfl) (by kernel_rfl) ?_);refine CL ?_)));(try clear fs))
 refine ON aC trivial ?_;exact⟨_,aE _,by first|rfl|exact⟨rfl,rfl⟩|assumption⟩
theorem aI6 (a b:Int) (H:aA):aT prog 238 [i64 a,i64 b] H fun d H'=>d=i64 (KB a b)/\H=H':=by
 refine aN _ _ func238 rfl rfl ntmps238 results238 (by simp) fun w0 g0 Q aC=>?_
 (have fs:=trivial;(repeat(first|refine bO ?_|refine cC ?_|refine cX ?_|refine cW ?_|refine eH ?_|refine cF ?_|refine cG ?_|((first|refine gN (by kernel_rfl) ?_|refine qM ?_|refine gM (by kernel_rfl) (by kernel_rfl) ?_);refine CL ?_)));(try clear fs))
 refine(aFh a _).mono ?_
 rintro d _ ⟨rfl,rfl⟩
 (have fs:=trivial;(repeat(first|refine bO ?_|refine cC ?_|refine cX ?_|refine cW ?_|refine eH ?_|refine cF ?_|refine cG ?_|((first|refine gN (by kernel_rfl) ?_|refine qM ?_|refine gM (by kernel_rfl) (by kernel_rfl) ?_);refine CL ?_)));(try clear fs))
 refine(aFh b _).mono ?_
 rintro d _ ⟨rfl,rfl⟩
 unfold KB at aC
 by_cases h1:a<b
 ·rw[aH h1] at aC
  have q1:(a<b)=True:=aK h1
  (have fs:=q1;(repeat(first|refine bO ?_|refine cC ?_|refine cX ?_|refine cW ?_|refine eH ?_|refine cF ?_|refine cG ?_|((first|refine gN (by kernel_rfl) ?_|refine qM ?_|refine gM (by kernel_rfl) (by kernel_rfl) ?_);refine CL ?_)));(try clear fs))
  refine ON aC trivial ?_;exact⟨_,aE _,by first|rfl|exact⟨rfl,rfl⟩|assumption⟩
 have q1:(a<b)=False:=aI h1
 rw[aD h1] at aC
 by_cases h2:b<a
 ·rw[aH h2] at aC
  have q2:(b<a)=True:=aK h2
  (have fs:=And.intro q1 q2;(repeat(first|refine bO ?_|refine cC ?_|refine cX ?_|refine cW ?_|refine eH ?_|refine cF ?_|refine cG ?_|((first|refine gN (by kernel_rfl) ?_|refine qM ?_|refine gM (by kernel_rfl) (by kernel_rfl) ?_);refine CL ?_)));(try clear fs))
  refine ON aC trivial ?_;exact⟨_,aE _,by first|rfl|exact⟨rfl,rfl⟩|assumption⟩
 have q2:(b<a)=False:=aI h2
 rw[aD h2] at aC
 (have fs:=And.intro q1 q2;(repeat(first|refine bO ?_|refine cC ?_|refine cX ?_|refine cW ?_|refine eH ?_|refine cF ?_|refine cG ?_|((first|refine gN (by kernel_rfl) ?_|refine qM ?_|refine gM (by kernel_rfl) (by kernel_rfl) ?_);refine CL ?_)));(try clear fs))
 refine ON aC trivial ?_;exact⟨_,aE _,by first|rfl|exact⟨rfl,rfl⟩|assumption⟩
def AJ:List Int->List Int->Int
 |[],[]=>0
 |[],_::_=> -1
 |_::_,[]=>1
 |x::xs,y::ys=>if KB x y=0 then AJ xs ys else KB x y
def CmI (l m:List Int) (H:aA) (i:Nat) (s:St):Prop:=s.df=[]/\s.fr 0=.seq 1 (l.map iD)/\s.fr 1=.seq 1 (m.map iD)/\s.fr 9=.seq 1 (l.map iD)/\s.fr 10=i64 l.length/\s.fr 11=i64 i/\s.H=H/\i<=m.length/\AJ l m=AJ (l.drop i) (m.drop i)
theorem YD (l m:List Int) (H:aA) (hl:l.length<=140737488351232) (hm:m.length<=140737488351232):aT prog 140 [.seq 1 (l.map iD),.seq 1 (m.map iD)] H fun d H'=>d=i64 (AJ l m)/\H=H':=by
 have mA:=lm iD l
 have cI:=lm iD m
 refine aN _ _ func140 rfl rfl ntmps140 results140 (by simp) fun w0 g0 Q aC=>?_
 (have fs:=mA;(repeat(first|refine bO ?_|refine cC ?_|refine cX ?_|refine cW ?_|refine eH ?_|refine cF ?_|refine cG ?_|((first|refine gN (by kernel_rfl) ?_|refine qM ?_|refine gM (by kernel_rfl) (by kernel_rfl) ?_);refine CL ?_)));(try clear fs))
 refine bB l.length (CmI l m H) ⟨rfl,rfl,rfl,rfl,rfl,rfl,rfl,by omega,rfl⟩ ?_
 rintro i s hi ⟨bG,f0,f1,f9,f10,f11,hH,him,hc⟩
 have hx:=bL i
 have cL:=bY i
 by_cases aZ:i<l.length
 ·have q1:=lT i l.length (by omega)
  have b8:=dL aZ
  have w3:=wS i (by omega)
  by_cases aB9:i<m.length
  ·have q2:((m.length:Int)<=(i:Int))=False:=aI (by omega)
   have AX:=dL aB9
   have hd:AJ l m=if KB l[i] m[i]=0 then AJ (l.drop (i+1)) (m.drop (i+1)) else KB l[i] m[i]:=by
    rw[hc,dI aZ,dI aB9];rfl
   (have fs:=And.intro f0 (And.intro f1 (And.intro f9 (And.intro f10 (And.intro f11 (And.intro mA (And.intro cI (And.intro q1 (And.intro q2 (And.intro b8 (And.intro AX (And.intro hx (And.intro cL (And.intro aZ aB9)))))))))))));(repeat(first|refine bO ?_|refine cC ?_|refine cX ?_|refine cW ?_|refine eH ?_|refine cF ?_|refine cG ?_|((first|refine gN (by kernel_rfl) ?_|refine qM ?_|refine gM (by kernel_rfl) (by kernel_rfl) ?_);refine CL ?_)));(try clear fs))
   refine(aI6 l[i] m[i] _).mono ?_
   rintro d _ ⟨rfl,rfl⟩
   by_cases h0:KB l[i] m[i]=0
   ·rw[aH h0] at hd
    have q3:(KB l[i] m[i]=0)=True:=aK h0
    (have fs:=And.intro q3 (And.intro f11 w3);(repeat(first|refine bO ?_|refine cC ?_|refine cX ?_|refine cW ?_|refine eH ?_|refine cF ?_|refine cG ?_|((first|refine gN (by kernel_rfl) ?_|refine qM ?_|refine gM (by kernel_rfl) (by kernel_rfl) ?_);refine CL ?_)));(try clear fs))
    exact⟨aZ,bG,f0,f1,f9,f10,rfl,hH,by omega,hd⟩
   ·rw[aD h0] at hd
    have q3:(KB l[i] m[i]=0)=False:=aI h0
    (have fs:=q3;(repeat(first|refine bO ?_|refine cC ?_|refine cX ?_|refine cW ?_|refine eH ?_|refine cF ?_|refine cG ?_|((first|refine gN (by kernel_rfl) ?_|refine qM ?_|refine gM (by kernel_rfl) (by kernel_rfl) ?_);refine CL ?_)));(try clear fs))
    refine ON aC bG ?_
    exact⟨_,aE _,by rw[hd],hH.symm⟩
  ·have q2:((m.length:Int)<=(i:Int))=True:=aK (by omega)
   have hd:AJ l m=1:=by
    rw[hc,dI aZ,dX (show m.length<=i by omega)];rfl
   (have fs:=And.intro f0 (And.intro f1 (And.intro f9 (And.intro f10 (And.intro f11 (And.intro mA (And.intro cI (And.intro q1 (And.intro q2 (And.intro b8 (And.intro hx (And.intro cL aZ)))))))))));(repeat(first|refine bO ?_|refine cC ?_|refine cX ?_|refine cW ?_|refine eH ?_|refine cF ?_|refine cG ?_|((first|refine gN (by kernel_rfl) ?_|refine qM ?_|refine gM (by kernel_rfl) (by kernel_rfl) ?_);refine CL ?_)));(try clear fs))
   refine ON aC bG ?_
   exact⟨_,aE _,by rw[hd],hH.symm⟩
 ·have q1:=lF i l.length (by omega)
  have CR:i=l.length:=by omega
  by_cases aB9:i<m.length
  ·have q2:((l.length:Int)<(m.length:Int))=True:=aK (by omega)
   have hd:AJ l m= -1:=by
    rw[hc,dX (show l.length<=i by omega),dI aB9];rfl
   (have fs:=And.intro f0 (And.intro f1 (And.intro f9 (And.intro f10 (And.intro f11 (And.intro mA (And.intro cI (And.intro q1 q2)))))));(repeat(first|refine bO ?_|refine cC ?_|refine cX ?_|refine cW ?_|refine eH ?_|refine cF ?_|refine cG ?_|((first|refine gN (by kernel_rfl) ?_|refine qM ?_|refine gM (by kernel_rfl) (by kernel_rfl) ?_);refine CL ?_)));(try clear fs))
   refine ON aC bG ?_
   exact⟨_,aE _,by rw[hd],hH.symm⟩
  ·have q2:((l.length:Int)<(m.length:Int))=False:=aI (by omega)
   have hd:AJ l m=0:=by
    rw[hc,dX (show l.length<=i by omega),dX (show m.length<=i by omega)];rfl
   (have fs:=And.intro f0 (And.intro f1 (And.intro f9 (And.intro f10 (And.intro f11 (And.intro mA (And.intro cI (And.intro q1 q2)))))));(repeat(first|refine bO ?_|refine cC ?_|refine cX ?_|refine cW ?_|refine eH ?_|refine cF ?_|refine cG ?_|((first|refine gN (by kernel_rfl) ?_|refine qM ?_|refine gM (by kernel_rfl) (by kernel_rfl) ?_);refine CL ?_)));(try clear fs))
   refine ON aC bG ?_
   exact⟨_,aE _,by rw[hd],hH.symm⟩
theorem HW (a b c d:Int) (H:aA):aT prog 140 [.seq 1 [[.val (.int .i64 a)],[.val (.int .i64 b)]],.seq 1 [[.val (.int .i64 c)],[.val (.int .i64 d)]]] H fun x H'=>x=i64 (AJ [a,b] [c,d])/\H=H':=
 YD [a,b] [c,d] H (by simp) (by simp)
def IW (q p:Int×Int):Prop:=q.1<p.1\/(q.1=p.1/\q.2<p.2)
instance (q p:Int×Int):Decidable (IW q p):=by unfold IW;exact inferInstance
theorem aD0 (q p:Int×Int):(0<=AJ [q.1,q.2] [p.1,p.2])↔¬IW q p:=by
 unfold IW
 simp only[AJ,KB]
 split <;> split <;> (try split) <;> omega
def RZ:Option (Int×Int)->Int×Int->Bool
 |none,_=>true
 |some q,p=>decide (IW q p)
def xK (n:Int):Option (Int×Int)->List (Int×Int)->Nat
 |_,[]=>0
 |q,p::l=>if p.1<0\/p.2<0\/n<=p.1\/n<=p.2 then 3 else if p.1=p.2 then 2 else if RZ q p then xK n (some p) l else 21
def iI (l:List (Int×Int)) (n:Int):Nat:=if 65535<l.length then 15 else xK n none l
def u0 (l:List (Int×Int)):Nat->Option (Int×Int)
 |0=>none
 |i+1=>l[i]?
theorem rT {l:List (Int×Int)} {i:Nat} (h:i<l.length):(l.map pD)[i]?=some [.val (.int .i64 l[i].1),.val (.int .i64 l[i].2)]:=by
 rw[cR,cP h];rfl
def RcI (l:List (Int×Int)) (n:Int) (H:aA) (i:Nat) (s:St):Prop:=s.df=[]/\s.fr 0=.seq 2 (l.map pD)/\s.fr 1=i64 n/\s.fr 10=.seq 2 (l.map pD)/\s.fr 11=i64 l.length/\s.fr 12=i64 i/\H.le s.H/\xK n none l=xK n (u0 l i) (l.drop i)
theorem R4 (l:List (Int×Int)) (n:Int) (H:aA) (hl:l.length<=140737488351232):aT prog 158 [.seq 2 (l.map pD),i64 n] H fun d H'=>d=i64 (iI l n)/\H=H':=by
 have mA:=lm pD l
 refine bM (K:=fun d=>d=i64 (iI l n)) ?_
 refine aN _ _ func158 rfl rfl ntmps158 results158 (by simp) fun w0 g0 Q aC=>?_
 by_cases hb:65535<l.length
 ·have q0:((65535:Int)<(l.length:Int))=True:=aK (by omega)
  have hc:iI l n=15:=aH hb
  rw[hc] at aC
  (have fs:=And.intro mA q0;(repeat(first|refine bO ?_|refine cC ?_|refine cX ?_|refine cW ?_|refine eH ?_|refine cF ?_|refine cG ?_|((first|refine gN (by kernel_rfl) ?_|refine qM ?_|refine gM (by kernel_rfl) (by kernel_rfl) ?_);refine CL ?_)));(try clear fs))
  refine ON aC mA ?_
  exact⟨_,aE _,aE _,_,aJ (aE _),rfl⟩
 have q0:((65535:Int)<(l.length:Int))=False:=aI (by omega)
 have hc:iI l n=xK n none l:=aD hb
 rw[hc] at aC
 (have fs:=And.intro mA q0;(repeat(first|refine bO ?_|refine cC ?_|refine cX ?_|refine cW ?_|refine eH ?_|refine cF ?_|refine cG ?_|((first|refine gN (by kernel_rfl) ?_|refine qM ?_|refine gM (by kernel_rfl) (by kernel_rfl) ?_);refine CL ?_)));(try clear fs))
 refine bB l.length (RcI l n H) ⟨rfl,rfl,rfl,rfl,rfl,rfl,aE _,rfl⟩ ?_
 rintro i s hi ⟨bG,f0,f1,f10,f11,f12,aR,fF⟩
 have hx:=bL i
 have cL:=bY i
 by_cases aZ:i<l.length
 case neg=>
  have q1:=lF i l.length (by omega)
  rw[dX (show l.length<=i by omega)] at fF
  (have fs:=And.intro f10 (And.intro f11 (And.intro f12 q1));(repeat(first|refine bO ?_|refine cC ?_|refine cX ?_|refine cW ?_|refine eH ?_|refine cF ?_|refine cG ?_|((first|refine gN (by kernel_rfl) ?_|refine qM ?_|refine gM (by kernel_rfl) (by kernel_rfl) ?_);refine CL ?_)));(try clear fs))
  refine ON aC bG ?_
  exact⟨_,aE _,aR,_,aJ aR,by rw[fF] <;> rfl⟩
 have q1:=lT i l.length (by omega)
 have b8:=rT aZ
 have w3:=wS i (by omega)
 rw[dI aZ] at fF
 simp only[xK] at fF
 (have fs:=And.intro f0 (And.intro f1 (And.intro f10 (And.intro f11 (And.intro f12 (And.intro q1 (And.intro b8 (And.intro hx (And.intro cL (And.intro aZ mA)))))))));(repeat(first|refine bO ?_|refine cC ?_|refine cX ?_|refine cW ?_|refine eH ?_|refine cF ?_|refine cG ?_|((first|refine gN (by kernel_rfl) ?_|refine qM ?_|refine gM (by kernel_rfl) (by kernel_rfl) ?_);refine CL ?_)));(try clear fs))
 intro b D9
 refine fW 6 D9 ?_
 have fin:∀(e:Nat),xK n none l=e->∃H',H'.le s.H/\H.le H'/\∃d0,J6 H H' (i64 e) d0/\d0=i64 (xK n none l):=fun e he=>⟨_,aE _,aR,_,aJ aR,by rw[he]⟩
 by_cases h1:min l[i].1 l[i].2<0
 ·rw[aH (by omega)] at fF
  have p1:(min l[i].1 l[i].2<0)=True:=aK h1
  (have fs:=And.intro f1 (And.intro f12 p1);(repeat(first|refine bO ?_|refine cC ?_|refine cX ?_|refine cW ?_|refine eH ?_|refine cF ?_|refine cG ?_|((first|refine gN (by kernel_rfl) ?_|refine qM ?_|refine gM (by kernel_rfl) (by kernel_rfl) ?_);refine CL ?_)));(try clear fs))
  refine ON aC bG ?_
  exact fin 3 fF
 have p1:(min l[i].1 l[i].2<0)=False:=aI h1
 by_cases h2:n<=max l[i].1 l[i].2
 ·rw[aH (by omega)] at fF
  have p2:(n<=max l[i].1 l[i].2)=True:=aK h2
  (have fs:=And.intro f1 (And.intro f12 (And.intro p1 p2));(repeat(first|refine bO ?_|refine cC ?_|refine cX ?_|refine cW ?_|refine eH ?_|refine cF ?_|refine cG ?_|((first|refine gN (by kernel_rfl) ?_|refine qM ?_|refine gM (by kernel_rfl) (by kernel_rfl) ?_);refine CL ?_)));(try clear fs))
  refine ON aC bG ?_
  exact fin 3 fF
 have p2:(n<=max l[i].1 l[i].2)=False:=aI h2
 rw[aD (by omega)] at fF
 by_cases h3:l[i].1=l[i].2
 ·rw[aH h3] at fF
  have p3:(l[i].1=l[i].2)=True:=aK h3
  (have fs:=And.intro f1 (And.intro f12 (And.intro p1 (And.intro p2 p3)));(repeat(first|refine bO ?_|refine cC ?_|refine cX ?_|refine cW ?_|refine eH ?_|refine cF ?_|refine cG ?_|((first|refine gN (by kernel_rfl) ?_|refine qM ?_|refine gM (by kernel_rfl) (by kernel_rfl) ?_);refine CL ?_)));(try clear fs))
  refine ON aC bG ?_
  exact fin 2 fF
 have p3:(l[i].1=l[i].2)=False:=aI h3
 rw[aD h3] at fF
 (have fs:=And.intro f1 (And.intro f12 (And.intro p1 (And.intro p2 p3)));(repeat(first|refine bO ?_|refine cC ?_|refine cX ?_|refine cW ?_|refine eH ?_|refine cF ?_|refine cG ?_|((first|refine gN (by kernel_rfl) ?_|refine qM ?_|refine gM (by kernel_rfl) (by kernel_rfl) ?_);refine CL ?_)));(try clear fs))
 by_cases hi0:i=0
 ·have p4:((0:Int)<(i:Int))=False:=aI (by omega)
  have hpr:u0 l i=none:=by rw[hi0];rfl
  rw[hpr] at fF
  simp only[RZ,fU] at fF
  refine MH (fun _ _ _ _=>False) (by kernel_rfl) (by kernel_rfl) (by kernel_rfl) ?_;simp (maxSteps:=4000000) only[vX,vB,vT,vZ,nF,kA,ZV,LL,OB,lW,iR,lY,↓oL,TP,dM,TL,MM,SS,xE,wU,AF,AG,rA,oZ,qZ,m8,D.nilPtr,D.mK,D.mR,jH,SN,SU,GN,kU,qC,gY,lR,P6,Q9,RA,RE,BQ,PH,D.cells,qD,TJ,TE,AI,gJ,gG,PR,O7,pC,UK,AH,SB,jZ,TD.lZ,TD.agg,VI,CG,wW,YE,uZ,x7,x6,RK,P5,tH,BW,iV,nK,Value.oneCell',oR,oP,ne_eq,reduceCtorEq,sV,oT,fU,fE,↓reduceIte,Nat.reduceEqDiff,Int.reduceLE,Int.reduceLT,Int.reduceNeg,Int.reduceToNat,Nat.reduceAdd,Nat.reduceMul,Nat.reduceLeDiff,Nat.reduceMod,Nat.reduceSub,Int.reduceEq,Int.reduceNe,Int.reduceAdd,Int.reduceSub,Int.reduceMul,oQ,fH,fM,eQ,cB,fL,mD,fK,jE,iC,jN,jJ,jK,jI,G4,o8,fD,St.out,qY,rN,rH,rG,pJ,or_true,true_or,or_false,false_or,↓MN,f0,f1,f12,i64,p4]
  (have fs:=And.intro f12 w3;(repeat(first|refine bO ?_|refine cC ?_|refine cX ?_|refine cW ?_|refine eH ?_|refine cF ?_|refine cG ?_|((first|refine gN (by kernel_rfl) ?_|refine qM ?_|refine gM (by kernel_rfl) (by kernel_rfl) ?_);refine CL ?_)));(try clear fs))
  exact⟨aZ,bG,f0,f1,f10,f11,rfl,aR,by rw[fF,u0,cP aZ]⟩
 ·obtain⟨j,hj⟩:∃j,i=j+1:=⟨i - 1,by omega⟩
  have kR:j<l.length:=by omega
  have p4:((0:Int)<(i:Int))=True:=aK (by omega)
  have hgp:=rT kR
  have w4:IntKind.i64.wrap ((i:Int) - 1)=(j:Int):=by rw[aY (by omega)];omega
  have GP:=bY j
  have hxj:=bL j
  have aIy:=aD0 l[j] l[i]
  have hpr:u0 l i=some l[j]:=by rw[hj,u0,cP kR]
  rw[hpr] at fF
  simp only[RZ,jU] at fF
  by_cases h4:IW l[j] l[i]
  ·rw[aH h4] at fF
   have p5:((0:Int)<=AJ [l[j].1,l[j].2] [l[i].1,l[i].2])=False:=aI (fun h=>aIy.1 h h4)
   refine MH (fun _ _ d A=>A=.none/\d=i64 (AJ [l[j].1,l[j].2] [l[i].1,l[i].2])) (by kernel_rfl) (by kernel_rfl) (by kernel_rfl) ?_;simp (maxSteps:=4000000) only[vX,vB,vT,vZ,nF,kA,ZV,LL,OB,lW,iR,lY,↓oL,TP,dM,TL,MM,SS,xE,wU,AF,AG,rA,oZ,qZ,m8,D.nilPtr,D.mK,D.mR,jH,SN,SU,GN,kU,qC,gY,lR,P6,Q9,RA,RE,BQ,PH,D.cells,qD,TJ,TE,AI,gJ,gG,PR,O7,pC,UK,AH,SB,jZ,TD.lZ,TD.agg,VI,CG,wW,YE,uZ,x7,x6,RK,P5,tH,BW,iV,nK,Value.oneCell',oR,oP,ne_eq,reduceCtorEq,sV,oT,fU,fE,↓reduceIte,Nat.reduceEqDiff,Int.reduceLE,Int.reduceLT,Int.reduceNeg,Int.reduceToNat,Nat.reduceAdd,Nat.reduceMul,Nat.reduceLeDiff,Nat.reduceMod,Nat.reduceSub,Int.reduceEq,Int.reduceNe,Int.reduceAdd,Int.reduceSub,Int.reduceMul,oQ,fH,fM,eQ,cB,fL,mD,fK,jE,iC,jN,jJ,jK,jI,G4,o8,fD,St.out,qY,rN,rH,rG,pJ,or_true,true_or,or_false,false_or,↓MN,f0,f1,f12,i64,p4,p5,hgp,w4,GP,hxj,kR,mA]
   refine⟨bN fun eL _=>HW l[j].1 l[j].2 l[i].1 l[i].2 eL,?_⟩
   (have fs:=And.intro f12 w3;(repeat(first|refine bO ?_|refine cC ?_|refine cX ?_|refine cW ?_|refine eH ?_|refine cF ?_|refine cG ?_|((first|refine gN (by kernel_rfl) ?_|refine qM ?_|refine gM (by kernel_rfl) (by kernel_rfl) ?_);refine CL ?_)));(try clear fs))
   exact⟨aZ,bG,f0,f1,f10,f11,rfl,aR,by rw[fF,u0,cP aZ]⟩
  ·rw[aD h4] at fF
   have p5:((0:Int)<=AJ [l[j].1,l[j].2] [l[i].1,l[i].2])=True:=aK (aIy.2 h4)
   refine MH (fun _ _ d A=>A=.none/\d=i64 (AJ [l[j].1,l[j].2] [l[i].1,l[i].2])) (by kernel_rfl) (by kernel_rfl) (by kernel_rfl) ?_;simp (maxSteps:=4000000) only[vX,vB,vT,vZ,nF,kA,ZV,LL,OB,lW,iR,lY,↓oL,TP,dM,TL,MM,SS,xE,wU,AF,AG,rA,oZ,qZ,m8,D.nilPtr,D.mK,D.mR,jH,SN,SU,GN,kU,qC,gY,lR,P6,Q9,RA,RE,BQ,PH,D.cells,qD,TJ,TE,AI,gJ,gG,PR,O7,pC,UK,AH,SB,jZ,TD.lZ,TD.agg,VI,CG,wW,YE,uZ,x7,x6,RK,P5,tH,BW,iV,nK,Value.oneCell',oR,oP,ne_eq,reduceCtorEq,sV,oT,fU,fE,↓reduceIte,Nat.reduceEqDiff,Int.reduceLE,Int.reduceLT,Int.reduceNeg,Int.reduceToNat,Nat.reduceAdd,Nat.reduceMul,Nat.reduceLeDiff,Nat.reduceMod,Nat.reduceSub,Int.reduceEq,Int.reduceNe,Int.reduceAdd,Int.reduceSub,Int.reduceMul,oQ,fH,fM,eQ,cB,fL,mD,fK,jE,iC,jN,jJ,jK,jI,G4,o8,fD,St.out,qY,rN,rH,rG,pJ,or_true,true_or,or_false,false_or,↓MN,f0,f1,f12,i64,p4,p5,hgp,w4,GP,hxj,kR,mA]
   refine⟨bN fun eL _=>HW l[j].1 l[j].2 l[i].1 l[i].2 eL,?_⟩
   (have fs:=f12;(repeat(first|refine bO ?_|refine cC ?_|refine cX ?_|refine cW ?_|refine eH ?_|refine cF ?_|refine cG ?_|((first|refine gN (by kernel_rfl) ?_|refine qM ?_|refine gM (by kernel_rfl) (by kernel_rfl) ?_);refine CL ?_)));(try clear fs))
   refine ON aC bG ?_
   exact fin 21 fF
inductive Reach (l:List (Int×Int)):Int->Int->Prop
 |refl (a:Int):Reach l a a
 |step {a b c:Int}:Reach l a b->(b,c)∈l->Reach l a c
theorem Reach.trans {l:List (Int×Int)} {a b c:Int} (h:Reach l a b) (h':Reach l b c):Reach l a c:=by
 induction h' with
 |refl=>exact h
 |step _ h2 ih=>exact .step ih h2
theorem C4 {l:List (Int×Int)} {S:List Int} {a:Int} (ha:a∈S) (hc:∀x∈S,∀y,(x,y)∈l->y∈S) {b:Int} (h:Reach l a b):b∈S:=by
 induction h with
 |refl=>exact ha
 |step _ h2 ih=>exact hc _ ih _ h2
open Classical in
noncomputable def j5 (l:List (Int×Int)) (n a b:Int):Bool:=decide (dG n a/\dG n b/\Reach l a b)
open Classical in
theorem OH {l:List (Int×Int)} {n a b:Int} (h:dG n a/\dG n b/\Reach l a b):j5 l n a b=true:=bF h
open Classical in
theorem tM {l:List (Int×Int)} {n a b:Int} (h:¬(dG n a/\dG n b/\Reach l a b)):j5 l n a b=false:=bC h
def kO (l:List (Int×Int)) (x:Int):List Int:=(l.filter fun p=>decide (p.1=x)).map (·.2)
def I7 (l:List (Int×Int)) (x:Int):List Int:=(l.filter fun p=>decide (p.2=x)).map (·.1)
theorem LN {l:List (Int×Int)} {x y:Int}:y∈kO l x↔(x,y)∈l:=by
 simp only[kO,mT,tP,jU]
 constructor
 ·rintro⟨⟨a,b⟩,⟨h1,rfl⟩,rfl⟩;exact h1
 ·intro h;exact⟨_,⟨h,rfl⟩,rfl⟩
def aCO (l:List Int):Option D:=if l=[] then none else some (.seq 1 (l.map iD))
def iM (n:Int) (b1 b2:Nat):D:=.rp [i64 n,.val (.map (some b1)),.val (.map (some b2))]
def uJ (l:List (Int×Int)) (b1 b2:Nat) (H:aA):Prop:=∃m1 m2,H b1=some (.map m1)/\lC m1 (fun x=>aCO (kO l x))/\H b2=some (.map m2)/\lC m2 (fun x=>aCO (I7 l x))
theorem aF4 (n a:Int) (b1 b2:Nat) (H:aA):aT prog 235 [iM n b1 b2,i64 a] H fun d H'=>d=.val (.bool (decide (dG n a)))/\H=H':=by
 refine aN _ _ func235 rfl rfl ntmps235 results235 (by simp) fun w0 g0 Q aC=>?_
 by_cases h1:0<=a
 ·have q1:(0<=a)=True:=aK h1
  by_cases h2:a<n
  ·have q2:(a<n)=True:=aK h2
   have e:decide (dG n a)=true:=bF ⟨h1,h2⟩
   rw[e] at aC
   refine tq (dZ @iM.eq_1 q1 q2) ?_;intro Nx aB Gx aG
   refine ON aC @iM.eq_1 ?_;exact⟨_,aE _,by first|rfl|exact⟨rfl,rfl⟩|assumption⟩
  ·have q2:(a<n)=False:=aI h2
   have e:decide (dG n a)=false:=bC fun h=>h2 h.2
   rw[e] at aC
   refine tq (dZ @iM.eq_1 q1 q2) ?_;intro Nx aB Gx aG
   refine ON aC @iM.eq_1 ?_;exact⟨_,aE _,by first|rfl|exact⟨rfl,rfl⟩|assumption⟩
 ·have q1:(0<=a)=False:=aI h1
  have e:decide (dG n a)=false:=bC fun h=>h1 h.1
  rw[e] at aC
  refine tq (cZ @iM.eq_1 q1) ?_;intro Nx aB Gx aG
  refine ON aC @iM.eq_1 ?_;exact⟨_,aE _,by first|rfl|exact⟨rfl,rfl⟩|assumption⟩
structure aDG (l:List (Int×Int)) (n a:Int) (z:Option Int) (S q:List Int):Prop where
 nd:S.Nodup
 inr:∀x∈S,dG n x/\Reach l a x
 st:a∈S
 qs:∀x∈q,x∈S
 cl:∀x∈S,x∉q->some x≠z->∀y,(x,y)∈l->y∈S
def OI (l:List (Int×Int)) (n a b:Int) (b1 b2 bm:Nat) (H:aA) (k:Nat) (s:St):Prop:=
 s.df=[]/\s.fr 0=iM n b1 b2/\s.fr 2=i64 b/\s.fr 7=.val (.map (some bm))/\H.le s.H/\k<=2 * n.toNat/\∃M S q ob,s.H bm=some (.map M)/\lC M (u7 S)/\Gk H 3 1 (q.map iD) (s.fr 8) s.H ob/\ob≠some bm/\aDG l n a none S q/\2 * (n.toNat - S.length)+q.length<=k
theorem aCP (l:List (Int×Int)) (n a b:Int) (b1 b2:Nat) (H:aA) (hR:uJ l b1 b2 H) (jX:∀p∈l,dG n p.1/\dG n p.2) (hn:n<=1000000) (hl:l.length<=1000000):aT prog 333 [iM n b1 b2,i64 a,i64 b] H fun d H'=>d=.val (.bool (j5 l n a b))/\H=H':=by
 refine bM (K:=fun d=>d=.val (.bool (j5 l n a b))) ?_
 obtain⟨m1,m2,FG,WD,F9,DU⟩:=hR
 refine aN _ _ func333 rfl rfl ntmps333 results333 (by simp) fun w0 g0 Q aC=>?_
 refine tq trivial ?_;intro Nx aB Gx aG
 refine(aF4 n a b1 b2 _).mono ?_
 rintro d _ ⟨rfl,rfl⟩
 by_cases ha:dG n a
 case neg=>
  rw[bC ha]
  refine tq trivial ?_;intro Nx aB Gx aG
  refine ON aC trivial ?_
  exact⟨_,aE _,aE _,_,aJ (aE _),by rw[tM fun h=>ha h.1]⟩
 rw[bF ha]
 refine tq trivial ?_;intro Nx aB Gx aG
 refine(aF4 n b b1 b2 _).mono ?_
 rintro d _ ⟨rfl,rfl⟩
 by_cases hb:dG n b
 case neg=>
  rw[bC hb]
  refine tq trivial ?_;intro Nx aB Gx aG
  refine ON aC trivial ?_
  exact⟨_,aE _,aE _,_,aJ (aE _),by rw[tM fun h=>hb h.2.1]⟩
 rw[bF hb]
 unfold dG at ha hb
 have NN: -9223372036854775808<=a/\a<=9223372036854775807:=by omega
 have NO: -9223372036854775808<=b/\b<=9223372036854775807:=by omega
 have yW:=lC.nil.ok (P:=prog) underlying3 NN
 refine to trivial ?_;intro Nx aB Gx aG
 intro bm ZA
 refine⟨yW,?_⟩
 have mZ:lC (gI [] (.int .i64 a) (.val (.bool true))) (u7 [a]):=((lC.nil.set NN (.val (.bool true))).congr fun x=>by rw[<-JM a [] x,<-aAK])
 refine to trivial ?_;intro Nx aB Gx aG
 intro bq hbq
 obtain⟨M,hM⟩:∃M,M=gI [] (.int .i64 a) (.val (.bool true)):=⟨_,rfl⟩
 rw[<-hM] at hbq mZ ⊢
 have aIj:(H.bH bm (.map M)) bm=some (.map M):=aQ _ _ _
 have nqm:bm≠bq:=rP aIj hbq
 have hq0:H bq=none:=(bT.1 hbq).2
 refine tq trivial ?_;intro Nx aB Gx aG
 refine MI (OI l n a b b1 b2 bm H) (2 * (n.toNat - 1)+1) ⟨rfl,rfl,rfl,rfl,bQ (bQ (aE _) ZA) hq0,by omega,M,[a],[a],some bq,(aP nqm).trans aIj,mZ,.inr ⟨bq,0,0,[[i64 a]],rfl,rfl,hq0,aQ _ _ _,rfl,by simp⟩,(fun e=>nqm (by injection e with e;exact e.symm)),⟨by simp,(by intro x hx;rw[eS] at hx;subst hx;exact⟨ha,.refl _⟩),by simp,by simp,(by intro x hx hq;exact absurd hx hq)⟩,by simp⟩ ?_
 rintro k s ⟨bG,f0,f2,f7,aR,hk,M,S,q,ob,QI,hM2,hgk,fP,hS,wR⟩
 cases q with
 |nil=>
  have uT:∀v:Bool,(b∈S↔v=true)->v=j5 l n a b:=fun v hv=>by
   cases v with
   |true=>rw[OH ⟨ha,hb,(hS.inr b (hv.2 rfl)).2⟩]
   |false=>rw[tM];rintro⟨_,_,hr⟩;exact absurd (hv.1 (C4 hS.st (fun x hx y hy=>hS.cl x hx (by simp) (by simp) y hy) hr)) (by simp)
  have PA:=hM2.get b
  have aDx:=hM2.ok (P:=prog) underlying3 NO
  have q0:∃c o k',s.fr 8=.val (.slice none 0 0)\/s.fr 8=.os c o 1 k' 0:=by
   rcases hgk with⟨_,h,_⟩|⟨c,o,k',_,_,h,_⟩
   ·exact⟨0,0,0,.inl h⟩
   ·exact⟨c,o,k',.inr h⟩
  obtain⟨c,o,k',q0⟩:=q0
  by_cases hbS:b∈S
  ·have s7:u7 S b=some (.val (.bool true)):=aH hbS
   rw[s7] at PA
   have hv:=uT true (by simp [hbS])
   rcases q0 with f8|f8
   ·refine tq (gE f2 f7 f8 QI PA) ?_;intro Nx aB Gx aG;refine⟨aDx,?_⟩;refine tq (dZ f2 f7 f8) ?_;intro Nx aB Gx aG;refine rt aC bG ?_;exact⟨_,aE _,aR,_,aJ aR,by rw[hv]⟩
   ·refine tq (gE f2 f7 f8 QI PA) ?_;intro Nx aB Gx aG;refine⟨aDx,?_⟩;refine tq (dZ f2 f7 f8) ?_;intro Nx aB Gx aG;refine rt aC bG ?_;exact⟨_,aE _,aR,_,aJ aR,by rw[hv]⟩
  ·have s7:u7 S b=none:=aD hbS
   rw[s7] at PA
   have hv:=uT false (by simp [hbS])
   rcases q0 with f8|f8
   ·refine tq (gE f2 f7 f8 QI PA) ?_;intro Nx aB Gx aG;refine⟨aDx,?_⟩;refine tq (dZ f2 f7 f8) ?_;intro Nx aB Gx aG;refine rt aC bG ?_;exact⟨_,aE _,aR,_,aJ aR,by rw[hv]⟩
   ·refine tq (gE f2 f7 f8 QI PA) ?_;intro Nx aB Gx aG;refine⟨aDx,?_⟩;refine tq (dZ f2 f7 f8) ?_;intro Nx aB Gx aG;refine rt aC bG ?_;exact⟨_,aE _,aR,_,aJ aR,by rw[hv]⟩
 |cons x q=>
  obtain⟨c,o,kq,gO,rU,f8,CP,QG,hd1,a08,hgx,hd2,aXZ⟩:=Gk.cons (show Gk H 3 1 (iD x::q.map iD) (s.fr 8) s.H ob from hgk)
  have hxS:=hS.inr x (hS.qs x (by simp))
  have aXo: -9223372036854775808<=x/\x<=9223372036854775807:=by have:=hxS.1;unfold dG at this;omega
  rw[bK] at f8
  have q1:((0:Int)<((q.length+1:Nat):Int))=True:=aK (by omega)
  have aXW:gO[kq]?=some [.val (.int .i64 x)]:=hgx
  have w1:((1:Int)<=((q.length+1:Nat):Int))=True:=aK (by omega)
  have aJA:s.H b1=some (.map m1):=aR _ _ FG
  have hkx:=WD.ok (P:=prog) underlying3 aXo
  have hgm:=WD.get x
  (have fs:=And.intro f0 (And.intro f2 (And.intro f7 (And.intro f8 (And.intro q1 (And.intro w1 (And.intro QG aXW))))));(iterate 10 (first|refine aG _ ?_|refine aB _ ?_|refine cX ?_|refine cW ?_|refine eH ?_|refine cF ?_|refine cG ?_|refine cC ?_|refine bO ?_|((first|refine tS fun Nx aB=>?_|refine mE rfl rfl (by kernel_rfl) (by kernel_rfl) fun Gx aG=>?_|refine cD (by kernel_rfl) ?_|refine lJ fun A B vJ vK=>?_);refine yR ?_;(first|refine aG _ ?_|refine aB _ ?_|refine vJ ?_|refine vK ?_|skip))));(try clear fs))
  have aXd:c≠bm:=fun e=>fP (by rw[rU,e])
  refine aFz 40 (.val (.slice none 0 0)) (.seq 1 []) kZ (fun s'=>s'.df=[]/\s'.fr 0=iM n b1 b2/\s'.fr 2=i64 b/\s'.fr 7=.val (.map (some bm))/\s'.fr 8=.os c o 1 (kq+1) q.length/\s'.fr 40=.seq 1 ((kO l x).map iD)/\s'.fr 41=i64 (kO l x).length/\s'.fr 42=i64 0/\s'.H=s.H) ?_ ?_
  ·unfold aCO at hgm
   by_cases hsx:kO l x=[]
   ·rw[aH hsx] at hgm
    refine tq (jA f0 f2 f7 @iM.eq_1 aJA hgm) ?_;intro Nx aB Gx aG
    refine⟨hkx,aB _ (.inr ⟨rfl,bG,f0,f2,f7,rfl,by rw[hsx] <;> rfl,by rw[hsx] <;> rfl,rfl,rfl⟩)⟩
   ·rw[aD hsx] at hgm
    refine tq (jA f0 f2 f7 @iM.eq_1 aJA hgm) ?_;intro Nx aB Gx aG
    refine⟨hkx,aB _ (.inl ⟨bG,f0,f2,f7,rfl,rfl,rfl,rfl,rfl⟩)⟩
  rintro s1 ⟨lS,g0,g2,g7,g8,g40,g41,g42,s6⟩
  have PB:(kO l x).length<=l.length:=by unfold kO;rw[bK];exact List.length_filter_le _ _
  have hq2:(gO.drop (kq+1))=q.map iD:=hd2
  refine cC ?_
  refine bB (kO l x).length (fun i s=>s.df=[]/\s.fr 0=iM n b1 b2/\s.fr 2=i64 b/\s.fr 7=.val (.map (some bm))/\s.fr 40=.seq 1 ((kO l x).map iD)/\s.fr 41=i64 (kO l x).length/\s.fr 42=i64 i/\H.le s.H/\∃M S q ob,s.H bm=some (.map M)/\lC M (u7 S)/\Gk H 3 1 (q.map iD) (s.fr 8) s.H ob/\ob≠some bm/\aDG l n a (some x) S q/\x∈S/\(∀j (h:j<i) (h2:j<(kO l x).length),(kO l x)[j]∈S)/\2 * (n.toNat - S.length)+q.length<k) ?_ ?_
  ·refine⟨lS,g0,g2,g7,g40,g41,g42,by rw[s6];exact aR,M,S,q,some c,by rw[s6];exact QI,hM2,.inr ⟨c,o,kq+1,gO,rfl,by rw[g8,bK],CP,by rw[s6];exact QG,hd2,aXZ⟩,(fun e=>aXd (by injection e)),⟨hS.nd,hS.inr,hS.st,fun y hy=>hS.qs y (by simp [hy]),fun z hz ZK ZL y hy=>hS.cl z hz (by simp [ZK];intro e;exact ZL (by rw[e])) (by simp) y hy⟩,hS.qs x (by simp),by omega,by simp at wR;omega⟩
  rintro i s2 hi ⟨mY,k0,k2,k7,k40,k41,k42,mO,M3,S3,q3,ob3,Y7,hM3,aGu,T0,hS3,aJO,IQ,aJB⟩
  have PC:=bL i
  have cL:=bY i
  have aGz:(List.map iD (kO l x)).length=(kO l x).length:=bK _
  by_cases aZ:i<(kO l x).length
  case neg=>
   have p1:((i:Int)<((kO l x).length:Int))=False:=aI (by omega)
   refine tq (dZ k41 k42 p1) ?_;intro Nx aB Gx aG
   refine⟨_,?_,mY,k0,k2,k7,mO,?_,M3,S3,q3,ob3,Y7,hM3,aGu,T0,⟨hS3.nd,hS3.inr,hS3.st,hS3.qs,fun z hz ZK _ y hy=>?_⟩,fA _⟩
   ·exact aJB
   ·omega
   ·by_cases ZL:z=x
    ·subst ZL
     obtain⟨j,hj,rfl⟩:=wM (LN.2 hy)
     exact IQ j (by omega) hj
    ·exact hS3.cl z hz ZK (by simpa using ZL) y hy
  have p1:((i:Int)<((kO l x).length:Int))=True:=aK (by omega)
  have b8:=dL aZ
  obtain⟨y,hy⟩:∃y,y=(kO l x)[i]:=⟨_,rfl⟩
  rw[<-hy] at b8
  have hyl:(x,y)∈l:=LN.1 (by rw[hy];exact bZ aZ)
  have hyR:=(jX _ hyl).2
  have aJQ: -9223372036854775808<=y/\y<=9223372036854775807:=by have:=hyR;unfold dG at this;simp only at this;omega
  have w3:=wS i (by omega)
  have hkb:=hM3.ok (P:=prog) underlying3 NO
  have hky:=hM3.ok (P:=prog) underlying3 aJQ
  by_cases hyb:y=b
  ·have p2:(y=b)=True:=aK hyb
   refine tq (P0 k2 k7 k40 k41 k42 p1 p2 b8 PC cL aZ aGz Y7) ?_;intro Nx aB Gx aG
   refine⟨hkb,?_⟩
   have hMb:=hM3.set NO (.val (.bool true))
   have aIw:=hMb.ok (P:=prog) underlying3 NO
   have aIz:=lX M3 (.int .i64 b) (.val (.bool true))
   obtain⟨M4,hM4⟩:∃M4,M4=gI M3 (.int .i64 b) (.val (.bool true)):=⟨_,rfl⟩
   rw[<-hM4] at aIw aIz ⊢
   have hm4:(s2.H.bH bm (.map M4)) bm=some (.map M4):=aQ _ _ _
   have mP:H.le (s2.H.bH bm (.map M4)):=bQ mO ZA
   refine tq (dZ k2 k7 aIz) ?_;intro Nx aB Gx aG
   refine⟨aIw,?_⟩
   refine tq (cZ k2 k7) ?_;intro Nx aB Gx aG
   refine rt aC mY ?_
   refine⟨_,aE _,mP,_,aJ mP,?_⟩
   rw[OH ⟨ha,hb,(hxS.2).step (hyb▸hyl)⟩]
  have p2:(y=b)=False:=aI hyb
  have aDy:=hM3.get y
  by_cases hyS:y∈S3
  ·have s7:u7 S3 y=some (.val (.bool true)):=aH hyS
   rw[s7] at aDy
   refine tq (F0 k2 k7 k40 k41 k42 p1 p2 b8 PC cL aZ aGz Y7 aDy) ?_;intro Nx aB Gx aG
   refine⟨hky,?_⟩
   refine tq (fJ k2 k7 k42 w3) ?_;intro Nx aB Gx aG
   refine⟨aZ,mY,k0,k2,k7,k40,k41,rfl,mO,M3,S3,q3,ob3,Y7,hM3,aGu,T0,hS3,aJO,fun j hj h2=>?_,aJB⟩
   by_cases hji:j=i
   ·subst hji;rw[<-hy];exact hyS
   ·exact IQ j (by omega) h2
  ·have s7:u7 S3 y=none:=aD hyS
   rw[s7] at aDy
   refine tq (F0 k2 k7 k40 k41 k42 p1 p2 b8 PC cL aZ aGz Y7 aDy) ?_;intro Nx aB Gx aG
   refine⟨hky,?_⟩
   refine tq (fJ k2 k7 k42 Y7) ?_;intro Nx aB Gx aG
   refine⟨hky,?_⟩
   have hMy:lC (gI M3 (.int .i64 y) (.val (.bool true))) (u7 (y::S3)):=(hM3.set aJQ (.val (.bool true))).congr (JM y S3)
   obtain⟨M4,hM4⟩:∃M4,M4=gI M3 (.int .i64 y) (.val (.bool true)):=⟨_,rfl⟩
   rw[<-hM4] at hMy ⊢
   have hm4:(s2.H.bH bm (.map M4)) bm=some (.map M4):=aQ _ _ _
   have mP:H.le (s2.H.bH bm (.map M4)):=bQ mO ZA
   have aXU:Gk H 3 1 (q3.map iD) (s2.fr 8) (s2.H.bH bm (.map M4)) ob3:=aGu.jY fun c' eM=>aP fun e=>T0 (by rw[eM,e])
   refine tq (fJ k2 k7 k42 w3) ?_;intro Nx aB Gx aG
   have hnd:(y::S3).Nodup:=HI.2 ⟨hyS,hS3.nd⟩
   have aBa:∀z∈y::S3,dG n z/\Reach l a z:=fun z hz=>by
    rcases eG.1 hz with rfl|hz
    ·exact⟨hyR,hxS.2.step hyl⟩
    ·exact hS3.inr z hz
   have a09:=C1 hnd fun z hz=>(aBa z hz).1
   refine XV (e:=3) sS rfl sS rfl ty3 rfl (by decide) mP aXU (new:=[iD y]) (by exact⟨rfl,rfl⟩) (by rw[bK];show(_+1) * 8<=_;omega) fun d H6 qL kK eJ uD=>?_
   have hm6:=uD _ _ hm4 T0
   rw[show[iD y]=[y].map iD from rfl,<-fI] at kK
   refine tq (fJ k2 k7 k42 w3) ?_;intro Nx aB Gx aG
   refine⟨aZ,mY,k0,k2,k7,k40,k41,rfl,eJ,M4,y::S3,q3++[y],qL,hm6.1,hMy,Gk.of kK,hm6.2,⟨hnd,aBa,jR _ hS3.st,?_,?_⟩,jR _ aJO,?_,?_⟩
   ·intro z hz
    rcases cS.1 hz with hz|hz
    ·exact jR _ (hS3.qs z hz)
    ·rw[eS] at hz;subst hz;exact wN
   ·intro z hz ZK ZL y' hy'
    rcases eG.1 hz with rfl|hz
    ·exact absurd (cS.2 (.inr (by simp))) ZK
    ·exact jR _ (hS3.cl z hz (fun h=>ZK (cS.2 (.inl h))) ZL y' hy')
   ·intro j hj h2
    by_cases hji:j=i
    ·subst hji;rw[<-hy];exact wN
    ·exact jR _ (IQ j (by omega) h2)
   ·rw[bJ,fN,nT] at *
    omega
def HsI (l:List Int) (x:Int) (H:aA) (i:Nat) (s:St):Prop:=s.df=[]/\s.fr 0=.seq 1 (l.map iD)/\s.fr 1=i64 x/\s.fr 5=i64 i/\s.H=H/\x∉l.take i
theorem aGf (l:List Int) (x:Int) (hl:l.length<=140737488351232):aT prog 379 [.seq 1 (l.map iD),i64 x] .none fun d _=>d=.val (.bool (decide (x∈l))):=by
 have mA:=lm iD l
 refine aN _ _ func379 rfl rfl ntmps379 results379 (by simp) fun w0 g0 Q aC=>?_
 refine tq trivial ?_;intro Nx aB Gx aG
 refine bB l.length (HsI l x .none) ⟨rfl,rfl,rfl,rfl,rfl,by simp⟩ ?_
 rintro i s hi ⟨bG,f0,f1,f5,hH,hn⟩
 have hx:=bL i
 have cL:=bY i
 by_cases aZ:i<l.length
 case neg=>
  have q1:=lF i l.length (by omega)
  rw[dQ (show l.length<=i by omega)] at hn
  refine tq (gE f0 f1 f5 mA q1) ?_;intro Nx aB Gx aG
  refine rt aC bG ?_
  exact⟨_,aE _,by rw[bC hn]⟩
 have q1:=lT i l.length (by omega)
 have b8:=dL aZ
 have w3:=wS i (by omega)
 by_cases h2:l[i]=x
 ·have q2:(l[i]=x)=True:=aK h2
  have hm:x∈l:=h2▸bZ aZ
  refine tq (rF f0 f1 f5 mA q1 q2 b8 hx cL aZ) ?_;intro Nx aB Gx aG
  refine rt aC bG ?_
  exact⟨_,aE _,by rw[bF hm]⟩
 ·have q2:(l[i]=x)=False:=aI h2
  refine tq (pE f0 f1 f5 mA q1 q2 b8 hx cL aZ w3) ?_;intro Nx aB Gx aG
  refine⟨aZ,bG,f0,f1,rfl,hH,?_⟩
  rw[dH aZ]
  intro hm
  rcases cS.1 hm with hm|hm
  ·exact hn hm
  ·rw[eS] at hm;exact h2 hm.symm
theorem aGg {H:aA} {d:D} {l:List Int} {x:Int} (he:kU H 1 d (·=l.map iD)) (hl:l.length<=140737488351232):aT prog 379 [d,i64 x] H fun r H'=>r=.val (.bool (decide (x∈l)))/\H=H':=
 yE (aGf l x hl) rfl (aFU (aCw he) (nG _ _))
def KO (l:List (Int×Int)) (n a b:Int) (H:aA) (s:St) (i:Nat) (S:List Int) (z:Option Int):Prop:=
 s.df=[]/\s.fr 0=.seq 2 (l.map pD)/\s.fr 1=i64 n/\s.fr 2=i64 a/\s.fr 3=i64 b/\s.fr 10=i64 i/\H.le s.H/\(∃c o,s.fr 9=.os c o 1 0 S.length/\H c=none/\s.H c=some (.row 3 o 1 (S.map iD)))/\aDG l n a z S (S.drop i)/\b∉S.take i
theorem WQ (l:List (Int×Int)) (n a b:Int) (H:aA) (jX:∀p∈l,dG n p.1/\dG n p.2) (hn:n<=1000000) (hl:l.length<=1000000):aT prog 298 [.seq 2 (l.map pD),i64 n,i64 a,i64 b] H fun d H'=>d=.val (.bool (j5 l n a b))/\H=H':=by
 refine bM (K:=fun d=>d=.val (.bool (j5 l n a b))) ?_
 have mA:=lm pD l
 refine aN _ _ func298 rfl rfl ntmps298 results298 (by simp) fun w0 g0 Q aC=>?_
 by_cases h1:a<0
 ·have p1:(a<0)=True:=aK h1
  refine tq p1 ?_;intro Nx aB Gx aG
  refine rt aC trivial ?_
  exact⟨_,aE _,aE _,_,aJ (aE _),by rw[tM fun h=>by have:=h.1.1;omega]⟩
 have p1:(a<0)=False:=aI h1
 by_cases h2:n<=a
 ·have p2:(n<=a)=True:=aK h2
  refine tq (cZ p1 p2) ?_;intro Nx aB Gx aG
  refine rt aC trivial ?_
  exact⟨_,aE _,aE _,_,aJ (aE _),by rw[tM fun h=>by have:=h.1.2;omega]⟩
 have p2:(n<=a)=False:=aI h2
 by_cases h3:b<0
 ·have p3:(b<0)=True:=aK h3
  refine tq (dZ p1 p2 p3) ?_;intro Nx aB Gx aG
  refine rt aC trivial ?_
  exact⟨_,aE _,aE _,_,aJ (aE _),by rw[tM fun h=>by have:=h.2.1.1;omega]⟩
 have p3:(b<0)=False:=aI h3
 by_cases h4:n<=b
 ·have p4:(n<=b)=True:=aK h4
  refine tq (fJ p1 p2 p3 p4) ?_;intro Nx aB Gx aG
  refine rt aC trivial ?_
  exact⟨_,aE _,aE _,_,aJ (aE _),by rw[tM fun h=>by have:=h.2.1.2;omega]⟩
 have p4:(n<=b)=False:=aI h4
 have ha:dG n a:=⟨by omega,by omega⟩
 have hb:dG n b:=⟨by omega,by omega⟩
 refine to (fJ p1 p2 p3 p4) ?_;intro Nx aB Gx aG
 intro c hc
 refine tq trivial ?_;intro Nx aB Gx aG
 refine MI (fun k s=>∃i S,KO l n a b H s i S none/\i<=S.length/\k=n.toNat - i) n.toNat ⟨0,[a],⟨rfl,rfl,rfl,rfl,rfl,rfl,bQ (aE _) hc,⟨c,0,rfl,hc,aQ _ _ _⟩,⟨by simp,(by intro x hx;rw[eS] at hx;subst hx;exact⟨ha,.refl _⟩),by simp,by simp,(by intro x hx hq;exact absurd hx hq)⟩,by simp⟩,by simp,by omega⟩ ?_
 rintro k s ⟨i,S,⟨bG,f0,f1,f2,f3,f10,aR,⟨c',o,f9,CP,QG⟩,hS,hbS⟩,hiS,hk⟩
 have hSn:=C1 hS.nd fun z hz=>(hS.inr z hz).1
 have hx:=bL i
 have cL:=bY i
 by_cases aZ:i<S.length
 case neg=>
  have q1:=lF i S.length (by omega)
  rw[dQ (show S.length<=i by omega)] at hbS
  have B2:∀x∈S,∀y,(x,y)∈l->y∈S:=fun x hx y hy=>hS.cl x hx (by rw[dX (by omega)];simp) (by simp) y hy
  refine tq (dZ f9 f10 q1) ?_;intro Nx aB Gx aG
  refine rt aC bG ?_
  exact⟨_,aE _,aR,_,aJ aR,by rw[tM fun h=>hbS (C4 hS.st B2 h.2.2)]⟩
 have q1:=lT i S.length (by omega)
 have b8:=dL aZ
 obtain⟨x,CW⟩:∃x,x=S[i]:=⟨_,rfl⟩
 rw[<-CW] at b8
 have hxS:x∈S:=CW▸bZ aZ
 by_cases hxb:x=b
 ·have q2:(x=b)=True:=aK hxb
  refine tq (yP f3 f9 f10 q1 q2 QG b8 hx cL) ?_;intro Nx aB Gx aG
  refine rt aC bG ?_
  exact⟨_,aE _,aR,_,aJ aR,by rw[OH ⟨ha,hb,hxb▸(hS.inr x hxS).2⟩]⟩
 have q2:(x=b)=False:=aI hxb
 refine tq (yP f3 f9 f10 q1 q2 QG b8 hx cL) ?_;intro Nx aB Gx aG
 have hSi:S.drop i=x::S.drop (i+1):=by rw[dI aZ,<-CW]
 have aXI:b∉S.take (i+1):=by
  rw[dH aZ,<-CW]
  intro hm
  rcases cS.1 hm with hm|hm
  ·exact hbS hm
  ·rw[eS] at hm;exact hxb hm.symm
 refine bB l.length (fun j s=>s.df=[]/\s.fr 0=.seq 2 (l.map pD)/\s.fr 1=i64 n/\s.fr 2=i64 a/\s.fr 3=i64 b/\s.fr 10=i64 i/\s.fr 11=i64 j/\H.le s.H/\∃S,(∃c o,s.fr 9=.os c o 1 0 S.length/\H c=none/\s.H c=some (.row 3 o 1 (S.map iD)))/\aDG l n a (some x) S (S.drop (i+1))/\S[i]?=some x/\b∉S.take (i+1)/\∀m (h:m<l.length),m<j->l[m].1=x->l[m].2∈S) ?_ ?_
 ·exact⟨bG,f0,f1,f2,f3,f10,rfl,aR,S,⟨c',o,f9,CP,QG⟩,⟨hS.nd,hS.inr,hS.st,fun z hz=>hS.qs z (by rw[hSi];exact jR _ hz),fun z hz ZK ZL y hy=>hS.cl z hz (by rw[hSi];intro hm;rcases eG.1 hm with hm|hm;exact ZL (by rw[hm]);exact ZK hm) (by simp) y hy⟩,by rw[cP aZ,CW],aXI,fun m h hm=>by omega⟩
 rintro j s2 hj ⟨mY,g0,g1,g2,g3,g10,g11,mO,S2,⟨c2,o2,g9,aDq,QH⟩,V7,Y8,aDn,IM⟩
 have DU:i<S2.length:=(kD.1 Y8).1
 have a02:=C1 V7.nd fun z hz=>(V7.inr z hz).1
 have hjx:=bL j
 have GP:=bY j
 by_cases kR:j<l.length
 case neg=>
  have q3:=lF j l.length (by omega)
  have w3:=wS i (by omega)
  refine tq (jA g0 g10 g11 mA q3 w3) ?_;intro Nx aB Gx aG
  refine⟨n.toNat - (i+1),(show _<_ by omega),i+1,S2,⟨mY,g0,g1,g2,g3,rfl,mO,⟨c2,o2,g9,aDq,QH⟩,⟨V7.nd,V7.inr,V7.st,V7.qs,fun z hz ZK _ y hy=>?_⟩,aDn⟩,by omega,rfl⟩
  by_cases ZL:z=x
  ·subst ZL
   obtain⟨m,hm,he⟩:=wM hy
   have:=IM m hm (by omega) (by rw[he])
   rwa[he] at this
  ·exact V7.cl z hz ZK (by simpa using ZL) y hy
 have q3:=lT j l.length (by omega)
 have AX:=rT kR
 have aGt:(S2.map iD)[i]?=some [.val (.int .i64 x)]:=by rw[cR,Y8];rfl
 have w4:=wS j (by omega)
 have q4:=lT i S2.length (by omega)
 obtain⟨u,hu⟩:∃u,u=l[j].1:=⟨_,rfl⟩
 obtain⟨v,hv⟩:∃v,v=l[j].2:=⟨_,rfl⟩
 rw[<-hu,<-hv] at AX
 have huv:(u,v)∈l:=by rw[hu,hv];exact bZ kR
 refine tq (fJ g0 g11 mA q3) ?_;intro Nx aB Gx aG
 by_cases hux:u=x
 case neg=>
  have q5:(u=x)=False:=aI hux
  refine dE (fun _ _ _ _=>False) fun Nx aB=>?_;refine dst (F0 g0 g9 g10 g11 QH AX aGt hx cL hjx GP kR q4 q5) ?_;intro Nx aB Gx aG
  refine tq (cZ g11 w4) ?_;intro Nx aB Gx aG
  refine⟨kR,mY,g0,g1,g2,g3,g10,rfl,mO,S2,⟨c2,o2,g9,aDq,QH⟩,V7,Y8,aDn,fun m hm hmj he=>?_⟩
  by_cases hme:m=j
  ·subst hme;exact absurd he (by rw[<-hu];exact hux)
  ·exact IM m hm (by omega) he
 have q5:(u=x)=True:=aK hux
 have dK:dY prog 379 [.os c2 o2 1 0 S2.length,.val (.int .i64 v)] s2.H fun d A=>A=aA.none/\d=.val (.bool (decide (v∈S2))):=
  bN fun eL eO=>aGg (VT (eO _ _ QH) (by rw[bK])) (by omega)
 by_cases hvS:v∈S2
 ·have q6:decide (v∈S2)=true:=bF hvS
  rw[q6] at dK
  refine dE (fun _ _ d A=>A=.none/\d=.val (.bool true)) fun Nx aB=>?_;refine dst (F0 g0 g9 g10 g11 QH AX aGt hx cL hjx GP kR q4 q5) ?_;intro Nx aB Gx aG
  refine⟨dK,aG _ ?_⟩
  refine dst trivial ?_;intro Nx aB Gx aG
  refine tq (cZ g11 w4) ?_;intro Nx aB Gx aG
  refine⟨kR,mY,g0,g1,g2,g3,g10,rfl,mO,S2,⟨c2,o2,g9,aDq,QH⟩,V7,Y8,aDn,fun m hm hmj he=>?_⟩
  by_cases hme:m=j
  ·subst hme;rw[<-hv];exact hvS
  ·exact IM m hm (by omega) he
 ·have q6:decide (v∈S2)=false:=bC hvS
  rw[q6] at dK
  refine dE (fun _ _ d A=>A=.none/\d=.val (.bool false)) fun Nx aB=>?_;refine dst (F0 g0 g9 g10 g11 QH AX aGt hx cL hjx GP kR q4 q5) ?_;intro Nx aB Gx aG
  refine⟨dK,aG _ ?_⟩
  refine dst trivial ?_;intro Nx aB Gx aG
  refine tq (qN g0 g9 g10 g11 AX hjx GP kR) ?_;intro Nx aB Gx aG
  have hvR:=(jX _ huv).2
  have hxR:Reach l a x:=(V7.inr x (jQ Y8)).2
  have hnd:(S2++[v]).Nodup:=by
   rw[List.nodup_append]
   exact⟨V7.nd,by simp,fun z hz w hw=>by rw[eS] at hw;subst hw;exact fun e=>hvS (e▸hz)⟩
  have aBa:∀z∈S2++[v],dG n z/\Reach l a z:=fun z hz=>by
   rcases cS.1 hz with hz|hz
   ·exact V7.inr z hz
   ·rw[eS] at hz;subst hz;exact⟨hvR,hxR.step (hux▸huv)⟩
  have hn3:=C1 hnd fun z hz=>(aBa z hz).1
  have hgl:Gl H 3 1 (S2.map iD) (.os c2 o2 1 0 S2.length) s2.H (some c2):=.inr ⟨c2,o2,rfl,by rw[bK],aDq,QH⟩
  refine cY (e:=3) sS rfl sS rfl ty3 rfl (by decide) mO hgl (new:=[iD v]) (by exact⟨rfl,rfl⟩) (by rw[bK];show(_+1) * 8<=_;omega) fun d H6 qL kK eJ _=>?_
  rw[show[iD v]=[v].map iD from rfl,<-fI] at kK
  have aXS:∃c o,d=.os c o 1 0 (S2++[v]).length/\H c=none/\H6 c=some (.row 3 o 1 ((S2++[v]).map iD)):=by
   rcases kK with⟨_,_,h⟩|⟨c,o,_,h1,h2,h3⟩
   ·simp at h
   ·exact⟨c,o,by rw[h1,bK],h2,h3⟩
  refine tq (cZ g11 w4) ?_;intro Nx aB Gx aG
  refine⟨kR,mY,g0,g1,g2,g3,g10,rfl,eJ,S2++[v],aXS,⟨hnd,aBa,cS.2 (.inl V7.st),?_,?_⟩,?_,?_,?_⟩
  ·intro z hz;exact List.mem_of_mem_drop hz
  ·intro z hz ZK ZL y hy
   rcases cS.1 hz with hz|hz
   ·refine cS.2 (.inl (V7.cl z hz (fun h=>ZK ?_) ZL y hy))
    rw[List.drop_append_of_le_length (by omega)]
    exact cS.2 (.inl h)
   ·exact absurd (by rw[List.drop_append_of_le_length (by omega)];exact cS.2 (.inr hz)) ZK
  ·rw[nS DU];exact Y8
  ·rw[G6 (by omega)];exact aDn
  ·intro m hm hmj he
   by_cases hme:m=j
   ·subst hme;rw[<-hv];exact cS.2 (.inr (by simp))
   ·exact cS.2 (.inl (IM m hm (by omega) he))
end Go.Proofs.YtelbfbioomcmeaaGreatDoor

