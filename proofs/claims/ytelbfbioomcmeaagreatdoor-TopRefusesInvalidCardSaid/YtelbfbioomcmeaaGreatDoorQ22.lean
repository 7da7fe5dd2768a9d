/- Lemmas and contracts of functions, several texts in one. -/
import Derived.Test.YtelbfbioomcmeaaGreatDoorQ21
set_option maxRecDepth 100000
set_option maxHeartbeats 4000000
set_option linter.all false
namespace Go.Proofs.YtelbfbioomcmeaaGreatDoor
open Go.RowKit
open Tryz
def SO {α:Type} (F:Bool->Int->α) (k:Bool) (x:Int) (v:α):Bool->Int->α:=fun k' x'=>if k'=k/\x'=x then v else F k' x'
theorem vC {α:Type} (F:Bool->Int->α) (k:Bool) (x:Int) (v:α):SO F k x v k x=v:=aH ⟨rfl,rfl⟩
theorem qU {α:Type} {F:Bool->Int->α} {k k':Bool} {x x':Int} {v:α} (h:¬(k'=k/\x'=x)):SO F k x v k' x'=F k' x':=aD h
structure S8 (H0:aA) (F:Bool->Int->List Int) (c:Bool->Int->Nat) (dm:Bool->Int->Option D) (H:aA):Prop where
 nil:∀k x,F k x=[]->dm k x=none
 own:∀k x,F k x≠[]->∃o,dm k x=some (.os (c k x) o 1 0 (F k x).length)/\H0 (c k x)=none/\H (c k x)=some (.row 3 o 1 ((F k x).map iD))
 inj:∀k x k' x',F k x≠[]->F k' x'≠[]->c k x=c k' x'->k'=k/\x'=x
theorem S8.jY {H0 H H':aA} {F:Bool->Int->List Int} {c:Bool->Int->Nat} {dm:Bool->Int->Option D} (h:S8 H0 F c dm H) (hk:∀b z,H b=some z->(∃o els,z=.row 3 o 1 els)->H' b=some z):S8 H0 F c dm H' where
 nil:=h.nil
 own:=fun k x hx=>by
  obtain⟨o,h1,h2,h3⟩:=h.own k x hx
  exact⟨o,h1,h2,hk _ _ h3 ⟨_,_,rfl⟩⟩
 inj:=h.inj
theorem S8.gl {H0 H:aA} {F:Bool->Int->List Int} {c:Bool->Int->Nat} {dm:Bool->Int->Option D} (h:S8 H0 F c dm H) (k:Bool) (x:Int):
  ∃ob,Gl H0 3 1 ((F k x).map iD) ((dm k x).getD (.val (.slice none 0 0))) H ob/\(∀b,ob=some b->∃o els,H b=some (.row 3 o 1 els))/\∀k' x',F k' x'≠[]->¬(k'=k/\x'=x)->ob≠some (c k' x'):=by
 by_cases hx:F k x=[]
 ·exact⟨none,.inl ⟨rfl,by rw[h.nil k x hx] <;> rfl,by rw[hx] <;> rfl⟩,(fun b hb=>by cases hb),fun _ _ _ _ e=>by cases e⟩
 ·obtain⟨o,h1,h2,h3⟩:=h.own k x hx
  refine⟨some (c k x),.inr ⟨c k x,o,rfl,by rw[h1,bK] <;> rfl,h2,h3⟩,fun b hb=>?_,fun k' x' h' fP e=>?_⟩
  ·injection hb with hb;subst hb;exact⟨_,_,h3⟩
  ·injection e with e
   exact fP (h.inj k x k' x' hx h' e)
theorem S8.step {H0 H H':aA} {F:Bool->Int->List Int} {c:Bool->Int->Nat} {dm:Bool->Int->Option D} (h:S8 H0 F c dm H) {k:Bool} {x y:Int} {d':D} {ob':Option Nat}
  (hg:Gl H0 3 1 ((F k x++[y]).map iD) d' H' ob') (hk:∀k' x',F k' x'≠[]->¬(k'=k/\x'=x)->H' (c k' x')=H (c k' x')/\ob'≠some (c k' x')):
  ∃c',S8 H0 (SO F k x (F k x++[y])) c' (SO dm k x (some d')) H':=by
 rcases hg with⟨_,_,h0⟩|⟨b,o,rU,hd,uR,hb⟩
 ·simp at h0
 ·refine⟨SO c k x b,fun k' x' he=>?_,fun k' x' he=>?_,fun k1 x1 k2 x2 h1 h2 he=>?_⟩
  ·by_cases hkx:k'=k/\x'=x
   ·rw[hkx.1,hkx.2,vC] at he;simp at he
   ·rw[qU hkx] at he ⊢;exact h.nil k' x' he
  ·by_cases hkx:k'=k/\x'=x
   ·obtain⟨rfl,rfl⟩:=hkx
    simp only[vC]
    exact⟨o,by rw[hd,bK],uR,hb⟩
   ·rw[qU hkx] at he
    simp only[qU hkx]
    obtain⟨o',h1,h2,h3⟩:=h.own k' x' he
    exact⟨o',h1,h2,(hk k' x' he hkx).1.trans h3⟩
  ·by_cases e1:k1=k/\x1=x <;> by_cases e2:k2=k/\x2=x
   ·exact⟨e2.1.trans e1.1.symm,e2.2.trans e1.2.symm⟩
   ·rw[qU e2] at h2 he
    rw[e1.1,e1.2,vC] at he
    exact absurd (by rw[rU,he]) (hk k2 x2 h2 e2).2
   ·rw[qU e1] at h1 he
    rw[e2.1,e2.2,vC] at he
    exact absurd (by rw[rU,<-he]) (hk k1 x1 h1 e1).2
   ·rw[qU e1] at h1 he
    rw[qU e2] at h2 he
    exact h.inj k1 x1 k2 x2 h1 h2 he
def BD (l:List (Int×Int)):Bool->Int->List Int:=fun k x=>if k=true then kO l x else I7 l x
theorem aAU (l:List (Int×Int)) (p:Int×Int):BD (l++[p])=SO (SO (BD l) true p.1 (BD l true p.1++[p.2])) false p.2 (BD l false p.2++[p.1]):=by
 funext k x
 cases k
 ·by_cases hx:x=p.2
  ·subst hx;rw[vC];simp [BD,I7]
  ·rw[qU (by simp [hx]),qU (by simp)]
   have:¬p.2=x:=fun e=>hx e.symm
   simp [BD,I7,this]
 ·rw[qU (by simp)]
  by_cases hx:x=p.1
  ·subst hx;rw[vC];simp [BD,kO]
  ·rw[qU (by simp [hx])]
   have:¬p.1=x:=fun e=>hx e.symm
   simp [BD,kO,this]
theorem aDF (l:List (Int×Int)) (k:Bool) (x:Int):(BD l k x).length<=l.length:=by
 cases k <;> simp only[BD,jT,fE,fU,kO,I7,bK] <;> exact List.length_filter_le _ _
theorem VK:∀{l:List (Int×Int)} {n:Int} {q:Option (Int×Int)},xK n q l=0->∀p∈l,dG n p.1/\dG n p.2
 |[],n,q,_,p,hp=>by cases hp
 |r::l,n,q,h,p,hp=>by
  simp only[xK] at h
  split at h
  ·cases h
  ·split at h
   ·cases h
   ·split at h
    ·rcases eG.1 hp with rfl|hp
     ·unfold dG;omega
     ·exact VK h p hp
    ·cases h
theorem K3 {l:List (Int×Int)} {n:Int} (h:iI l n=0):l.length<=65535/\∀p∈l,dG n p.1/\dG n p.2:=by
 unfold iI at h
 split at h
 ·cases h
 ·exact⟨by omega,VK h⟩
def NwI (l:List (Int×Int)) (n:Int) (b1 b2:Nat) (H:aA) (i:Nat) (s:St):Prop:=
 s.df=[]/\s.fr 7=iM n b1 b2/\s.fr 21=.seq 2 (l.map pD)/\s.fr 22=i64 l.length/\s.fr 23=i64 i/\H.le s.H/\∃m1 m2 c dm,s.H b1=some (.map m1)/\s.H b2=some (.map m2)/\lC m1 (dm true)/\lC m2 (dm false)/\S8 H (BD (l.take i)) c dm s.H
def aWk (l:List (Int×Int)) (n:Int) (H:aA) (d:D) (H':aA):Prop:=∃b1 b2 m1 m2 c dm,d=.fV [iM n b1 b2,i64 0]/\H b1=none/\H b2=none/\b1≠b2/\H.le H'/\H' b1=some (.map m1)/\H' b2=some (.map m2)/\lC m1 (dm true)/\lC m2 (dm false)/\S8 H (BD l) c dm H'
theorem aE0 (l:List (Int×Int)) (n:Int) (H:aA) (hn:n<=9223372036854775807) (hc:iI l n=0):aT prog 133 [.seq 2 (l.map pD),i64 n] H (aWk l n H):=by
 have mA:=lm pD l
 obtain⟨hl,jX⟩:=K3 hc
 refine aN _ _ func133 rfl rfl ntmps133 results133 (by simp) fun w0 g0 Q aC=>?_
 refine tq trivial ?_;intro Nx aB Gx aG
 refine(R4 l n _ (by omega)).mono ?_
 rintro d _ ⟨rfl,rfl⟩
 rw[hc]
 refine tq trivial ?_;intro Nx aB Gx aG
 intro b1 sI b2 mW bR hbR
 refine aB _ ?_
 refine fW 7 hbR ?_
 have h12:b1≠b2:=rP (aQ _ _ _) mW
 have aGi:H b2=none:=(bT.1 mW).2
 refine tq mA ?_;intro Nx aB Gx aG
 refine bB l.length (NwI l n b1 b2 H) ⟨rfl,rfl,rfl,rfl,rfl,bQ (bQ (aE _) sI) aGi,[],[],fun _ _=>0,fun _ _=>none,(aP h12).trans (aQ _ _ _),aQ _ _ _,lC.nil,lC.nil,⟨fun _ _ _=>rfl,fun k x h=>absurd (by cases k <;> simp [BD,kO,I7]) h,fun k x _ _ h _ _=>absurd (by cases k <;> simp [BD,kO,I7]) h⟩⟩ ?_
 rintro i s hi ⟨bG,f7,f21,f22,f23,aR,m1,m2,c,dm,FG,F9,WD,DU,hF⟩
 have hx:=bL i
 have cL:=bY i
 by_cases aZ:i<l.length
 case neg=>
  have q1:=lF i l.length (by omega)
  refine tq (fJ f7 f22 f23 q1) ?_;intro Nx aB Gx aG
  refine rt aC bG ?_
  rw[dQ (by omega)] at hF
  exact⟨_,aE _,b1,b2,m1,m2,c,dm,rfl,sI,aGi,h12,aR,FG,F9,WD,DU,hF⟩
 have q1:=lT i l.length (by omega)
 have b8:=rT aZ
 have w3:=wS i (by omega)
 obtain⟨p,hpe⟩:∃p,p=l[i]:=⟨_,rfl⟩
 rw[<-hpe] at b8
 have oF:=aAU (l.take i) p
 rw[hpe,<-dH aZ,<-hpe] at oF
 refine tq (yP f21 f22 f23 q1 b8 hx cL aZ mA) ?_;intro Nx aB Gx aG
 intro b9 hb9
 refine aB _ ?_
 refine fW 9 hb9 ?_
 have nX:=aDF (l.take i)
 have sM:(l.take i).length<=65535:=by rw[dJ];omega
 have hpR:=jX p (hpe▸bZ aZ)
 have aEB:(-9223372036854775808<=p.1/\p.1<=9223372036854775807)/\(-9223372036854775808<=p.2/\p.2<=9223372036854775807):=by unfold dG at hpR;omega
 refine VE (fun s'=>s'.df=[]/\s'.fr 7=iM n b1 b2/\s'.fr 9=.rp [i64 p.1,i64 p.2]/\s'.fr 21=.seq 2 (l.map pD)/\s'.fr 22=i64 l.length/\s'.fr 23=i64 i/\H.le s'.H/\∃m1 m2 c dm,s'.H b1=some (.map m1)/\s'.H b2=some (.map m2)/\lC m1 (dm true)/\lC m2 (dm false)/\S8 H (SO (BD (l.take i)) true p.1 (BD (l.take i) true p.1++[p.2])) c dm s'.H) ?_ ?_
 ·have aDv:=WD.get p.1
  have mZ:=WD.ok (P:=prog) underlying3 aEB.1
  have hb8:=nX true p.1
  obtain⟨ob,hg,aBi,aHB⟩:=hF.gl true p.1
  have QY:ob≠some b1:=fun e=>by obtain⟨o,els,he⟩:=aBi b1 e;rw[FG] at he;cases he
  have w9:ob≠some b2:=fun e=>by obtain⟨o,els,he⟩:=aBi b2 e;rw[F9] at he;cases he
  have fin:∀d H6 qL,Gl H 3 1 ((BD (l.take i) true p.1).map iD++[iD p.2]) d H6 qL->H.le H6->(∀b z,s.H b=some z->ob≠some b->H6 b=some z/\qL≠some b)->
    H6 b1=some (.map m1)/\H.le (H6.bH b1 (.map (gI m1 (.int .i64 p.1) d)))/\∃m1' m2' c dm,(H6.bH b1 (.map (gI m1 (.int .i64 p.1) d))) b1=some (.map m1')/\(H6.bH b1 (.map (gI m1 (.int .i64 p.1) d))) b2=some (.map m2')/\lC m1' (dm true)/\lC m2' (dm false)/\S8 H (SO (BD (l.take i)) true p.1 (BD (l.take i) true p.1++[p.2])) c dm (H6.bH b1 (.map (gI m1 (.int .i64 p.1) d))):=fun d H6 qL kK eJ uD=>by
   have e1:=(uD _ _ FG QY).1
   have e2:=(uD _ _ F9 w9).1
   rw[show[iD p.2]=[p.2].map iD from rfl,<-fI] at kK
   obtain⟨c',hF'⟩:=hF.step kK fun k' x' he fP=>by
    obtain⟨o,h1,h2,h3⟩:=hF.own k' x' he
    have:=uD _ _ h3 (aHB k' x' he fP)
    exact⟨this.1.trans h3.symm,this.2⟩
   refine⟨e1,bQ eJ sI,_,m2,c',SO dm true p.1 (some d),aQ _ _ _,(aP h12.symm).trans e2,(WD.set aEB.1 d).congr fun x=>by simp [SO],DU.congr fun x=>by simp [SO],hF'.jY fun b z hz ⟨o,els,hzr⟩=>?_⟩
   rw[aP fun e=>by rw[e,e1,hzr] at hz;cases hz]
   exact hz
  cases WB:dm true p.1 with
  |none=>
   rw[WB] at aDv hg
   refine wE (fun t=>t==some 30||t==some 31||t==some 32||t==some 36||t==some 37||t==some 38||t==some 40||t==some 41) (fun _=>false) (fun _ _ _ _=>False) (fun _ _ _ _ _=>False) fun Nx aB=>?_;have fs:=And.intro f7 (And.intro @iM.eq_1 (And.intro FG aDv));refine VV ?_;(first|refine aG _ ?_|refine aB _ ?_|skip);(try clear fs)
   refine⟨mZ,?_⟩
   refine cY (e:=3) sS rfl sS rfl ty3 rfl (by decide) aR hg (new:=[iD p.2]) (by exact⟨rfl,rfl⟩) (by rw[bK];show(_+1) * 8<=_;omega) fun d H6 qL kK eJ uD=>?_
   obtain⟨e1,e2,e3⟩:=fin d H6 qL kK eJ uD
   simp only[e1]
   exact⟨mZ,aB _ ⟨bG,f7,rfl,f21,f22,f23,e2,e3⟩⟩
  |some dv=>
   rw[WB] at aDv hg
   refine wE (fun t=>t==some 30||t==some 31||t==some 32||t==some 36||t==some 37||t==some 38||t==some 40||t==some 41) (fun _=>false) (fun _ _ _ _=>False) (fun _ _ _ _ _=>False) fun Nx aB=>?_;have fs:=And.intro f7 (And.intro @iM.eq_1 (And.intro FG aDv));refine VV ?_;(first|refine aG _ ?_|refine aB _ ?_|skip);(try clear fs)
   refine⟨mZ,?_⟩
   refine cY (e:=3) sS rfl sS rfl ty3 rfl (by decide) aR hg (new:=[iD p.2]) (by exact⟨rfl,rfl⟩) (by rw[bK];show(_+1) * 8<=_;omega) fun d H6 qL kK eJ uD=>?_
   obtain⟨e1,e2,e3⟩:=fin d H6 qL kK eJ uD
   simp only[e1]
   exact⟨mZ,aB _ ⟨bG,f7,rfl,f21,f22,f23,e2,e3⟩⟩
 rintro s2 ⟨gdf,g7,g9,g21,g22,g23,gle,M1,M2,C,DM,gm1,gm2,gi1,gi2,gF⟩
 have Q7:SO (BD (l.take i)) true p.1 (BD (l.take i) true p.1++[p.2]) false p.2=BD (l.take i) false p.2:=qU (by simp)
 rw[<-Q7] at oF
 obtain⟨F2,hF2⟩:∃F2,F2=SO (BD (l.take i)) true p.1 (BD (l.take i) true p.1++[p.2]):=⟨_,rfl⟩
 rw[<-hF2] at gF oF Q7
 have aDw:=gi2.get p.2
 have iQ:=gi2.ok (P:=prog) underlying3 aEB.2
 have aXG:=nX false p.2
 rw[<-Q7] at aXG
 obtain⟨ob,hg,aBi,aHB⟩:=gF.gl false p.2
 have QY:ob≠some b1:=fun e=>by obtain⟨o,els,he⟩:=aBi b1 e;rw[gm1] at he;cases he
 have w9:ob≠some b2:=fun e=>by obtain⟨o,els,he⟩:=aBi b2 e;rw[gm2] at he;cases he
 have fin:∀d H6 qL,Gl H 3 1 ((F2 false p.2).map iD++[iD p.1]) d H6 qL->H.le H6->(∀b z,s2.H b=some z->ob≠some b->H6 b=some z/\qL≠some b)->
   H6 b2=some (.map M2)/\H.le (H6.bH b2 (.map (gI M2 (.int .i64 p.2) d)))/\∃m1' m2' c dm,(H6.bH b2 (.map (gI M2 (.int .i64 p.2) d))) b1=some (.map m1')/\(H6.bH b2 (.map (gI M2 (.int .i64 p.2) d))) b2=some (.map m2')/\lC m1' (dm true)/\lC m2' (dm false)/\S8 H (BD (l.take (i+1))) c dm (H6.bH b2 (.map (gI M2 (.int .i64 p.2) d))):=fun d H6 qL kK eJ uD=>by
  have e1:=(uD _ _ gm1 QY).1
  have e2:=(uD _ _ gm2 w9).1
  rw[show[iD p.1]=[p.1].map iD from rfl,<-fI] at kK
  obtain⟨c',hF'⟩:=gF.step kK fun k' x' he fP=>by
   obtain⟨o,h1,h2,h3⟩:=gF.own k' x' he
   have:=uD _ _ h3 (aHB k' x' he fP)
   exact⟨this.1.trans h3.symm,this.2⟩
  rw[<-oF] at hF'
  refine⟨e2,bQ eJ aGi,M1,_,c',SO DM false p.2 (some d),(aP h12).trans e1,aQ _ _ _,gi1.congr fun x=>by simp [SO],(gi2.set aEB.2 d).congr fun x=>by simp [SO],hF'.jY fun b z hz ⟨o,els,hzr⟩=>?_⟩
  rw[aP fun e=>by rw[e,e2,hzr] at hz;cases hz]
  exact hz
 cases WB:DM false p.2 with
 |none=>
  rw[WB] at aDw hg
  refine wE (fun t=>t==some 47||t==some 48||t==some 49||t==some 53||t==some 54||t==some 55||t==some 57||t==some 58) (fun _=>false) (fun _ _ _ _=>False) (fun _ _ _ _ _=>False) fun Nx aB=>?_;have fs:=And.intro g7 (And.intro g9 (And.intro @iM.eq_1 (And.intro gm2 aDw)));refine VV ?_;(first|refine aG _ ?_|refine aB _ ?_|skip);(try clear fs)
  refine⟨iQ,?_⟩
  refine cY (e:=3) sS rfl sS rfl ty3 rfl (by decide) gle hg (new:=[iD p.1]) (by exact⟨rfl,rfl⟩) (by rw[bK];show(_+1) * 8<=_;omega) fun d H6 qL kK eJ uD=>?_
  obtain⟨e1,e2,e3⟩:=fin d H6 qL kK eJ uD
  simp only[e1]
  refine⟨iQ,?_⟩
  refine tq (cZ g23 w3) ?_;intro Nx aB Gx aG
  exact⟨aZ,gdf,g7,g21,g22,rfl,e2,e3⟩
 |some dv=>
  rw[WB] at aDw hg
  refine wE (fun t=>t==some 47||t==some 48||t==some 49||t==some 53||t==some 54||t==some 55||t==some 57||t==some 58) (fun _=>false) (fun _ _ _ _=>False) (fun _ _ _ _ _=>False) fun Nx aB=>?_;have fs:=And.intro g7 (And.intro g9 (And.intro @iM.eq_1 (And.intro gm2 aDw)));refine VV ?_;(first|refine aG _ ?_|refine aB _ ?_|skip);(try clear fs)
  refine⟨iQ,?_⟩
  refine cY (e:=3) sS rfl sS rfl ty3 rfl (by decide) gle hg (new:=[iD p.1]) (by exact⟨rfl,rfl⟩) (by rw[bK];show(_+1) * 8<=_;omega) fun d H6 qL kK eJ uD=>?_
  obtain⟨e1,e2,e3⟩:=fin d H6 qL kK eJ uD
  simp only[e1]
  refine⟨iQ,?_⟩
  refine tq (cZ g23 w3) ?_;intro Nx aB Gx aG
  exact⟨aZ,gdf,g7,g21,g22,rfl,e2,e3⟩
def N5 (F:Int->List Int):Value->D
 | .int _ x=>.seq 1 ((F x).map iD)
 |_=>.ND
theorem VW {H H0 H':aA} {F:Bool->Int->List Int} {c:Bool->Int->Nat} {dm:Bool->Int->Option D} {k:Bool} {m:List (Value×D)} (hF:S8 H F c dm H') (hi:lC m (dm k)) (hd:Dom H0 H') (hn:∀b o els,H' b=some (.row 3 o 1 els)->H b=none->H0 b=none):
  (m.map (·.1)).Nodup->∀p∈m,J6 H0 H' p.2 (N5 (F k) p.1):=fun hnd p hp=>by
 obtain⟨x,hx,he⟩:=hi.keys p hp
 have hg:=FN hnd hp
 rw[he,hi.get] at hg
 rw[he]
 by_cases hf:F k x=[]
 ·rw[hF.nil k x hf] at hg;cases hg
 ·obtain⟨o,h1,h2,h3⟩:=hF.own k x hf
  rw[h1] at hg
  injection hg with hg
  rw[<-hg]
  have:=aBR (k:=0) (n:=(F k x).length) hd h3 (hn _ _ _ h3 h2) (by rw[bK];omega)
  rw[iY,dQ (by rw[bK];exact fA _)] at this
  exact this
theorem VX {H H':aA} {F:Bool->Int->List Int} {c:Bool->Int->Nat} {dm:Bool->Int->Option D} {k:Bool} {m:List (Value×D)} (hF:S8 H F c dm H') (hi:lC m (dm k)):lC (m.map fun p=>(p.1,N5 (F k) p.1)) fun x=>aCO (F k x):=
 (hi.aXs (N5 (F k))).congr fun x=>by
  unfold aCO
  by_cases hf:F k x=[]
  ·rw[hF.nil k x hf,aH hf];rfl
  ·obtain⟨o,h1,_⟩:=hF.own k x hf
   rw[h1,aD hf];rfl
theorem aJ5 (l:List (Int×Int)) (n:Int) (H:aA) (hn:n<=9223372036854775807) (hc:iI l n=0):aT prog 133 [.seq 2 (l.map pD),i64 n] H fun d H'=>∃b1 b2 m1 m2,d=.fV [iM n b1 b2,i64 0]/\H b1=none/\H b2=none/\b1≠b2/\H'=(H.bH b1 (.map m1)).bH b2 (.map m2)/\uJ l b1 b2 H'/\H.le H':=
 (aE0 l n H hn hc).OM fun d H' ⟨b1,b2,m1,m2,c,dm,KC,sI,mW,fP,aR,FG,F9,WD,DU,hF⟩=>by
  obtain⟨H0,hH0⟩:∃H0,H0=(H.bH b1 (.map (m1.map fun p=>(p.1,N5 (BD l true) p.1)))).bH b2 (.map (m2.map fun p=>(p.1,N5 (BD l false) p.1))):=⟨_,rfl⟩
  have e2:H0 b2=some (.map (m2.map fun p=>(p.1,N5 (BD l false) p.1))):=by rw[hH0,aQ]
  have e1:H0 b1=some (.map (m1.map fun p=>(p.1,N5 (BD l true) p.1))):=by rw[hH0,aP fP,aQ]
  have e0:∀b,b≠b1->b≠b2->H0 b=H b:=fun b h1 h2=>by rw[hH0,aP h2,aP h1]
  have hd:Dom H0 H':=fun b hb=>by
   rw[e0 b (fun e=>by rw[e,FG] at hb;cases hb) (fun e=>by rw[e,F9] at hb;cases hb)]
   cases hx:H b with
   |none=>rfl
   |some x=>rw[aR _ _ hx] at hb;cases hb
  have WE:∀b o els,H' b=some (.row 3 o 1 els)->H b=none->H0 b=none:=fun b o els h1 h2=>by
   rw[e0 b (fun e=>by rw[e,FG] at h1;cases h1) (fun e=>by rw[e,F9] at h1;cases h1)]
   exact h2
  have wZ:H.le H0:=by rw[hH0];exact bQ (bQ (aE _) sI) mW
  refine⟨d,H0,hd,fun w hH=>hH.OM hd fun b x hb=>?_,QC hd,b1,b2,_,_,KC,sI,mW,fP,hH0,⟨_,_,e1,VX hF WD,e2,VX hF DU⟩,wZ⟩
  by_cases h1:b=b1
  ·subst h1
   rw[e1] at hb
   injection hb with hb
   exact .inr ⟨m1,N5 (BD l true),FG,hb.symm,VW hF WD hd WE⟩
  ·by_cases h2:b=b2
   ·subst h2
    rw[e2] at hb
    injection hb with hb
    exact .inr ⟨m2,N5 (BD l false),F9,hb.symm,VW hF DU hd WE⟩
   ·rw[e0 b h1 h2] at hb
    exact .inl (aR _ _ hb)
noncomputable def KS (l:List (Int×Int)) (n:Int) (ts:List cQ):Nat->Int->Int->Bool
 |0,_,_=>false
 |k+1,a,b=>
  decide ((cJ ts a).k=(cJ ts b).k)&&(decide ((cJ ts a).m=(cJ ts b).m)&&(decide ((cJ ts a).ar.length=(cJ ts b).ar.length)&&
   ((if (cJ ts a).k=3 then j5 l n (cJ ts a).r (cJ ts b).r&&(KS l n ts k (cJ ts a).e (cJ ts b).e&&(!(cJ ts a).m||KS l n ts k (cJ ts b).e (cJ ts a).e)) else true)&&
    ((cJ ts a).ar.zip (cJ ts b).ar).all fun p=>KS l n ts k p.1 p.2)))
theorem zF {l:List (Int×Int)} {n:Int} {ts:List cQ} (hw:vY ts):∀(k:Nat) (a b:Int),dG ts.length a->dG ts.length b->a<k->b<k->∀k',k<=k'->KS l n ts k' a b=KS l n ts k a b
 |0,a,b,ha,_,hk,_,_,_=>by unfold dG at ha;omega
 |k+1,a,b,ha,hb,hak,hbk,0,hk'=>by omega
 |k+1,a,b,ha,hb,hak,hbk,k'+1,hk'=>by
  have wa:=v7 hw ha
  have wb:=v7 hw hb
  unfold dG at ha hb
  simp only[KS]
  by_cases h1:(cJ ts a).k=(cJ ts b).k
  case neg=>simp [h1]
  congr 1
  congr 1
  congr 1
  have eW:(((cJ ts a).ar.zip (cJ ts b).ar).all fun p=>KS l n ts k' p.1 p.2)=(((cJ ts a).ar.zip (cJ ts b).ar).all fun p=>KS l n ts k p.1 p.2):=by
   rw[Bool.eq_iff_iff,eD,eD]
   refine forall_congr' fun p=>forall_congr' fun hp=>?_
   have h2:=List.of_mem_zip hp
   have h3:=wa.2 _ h2.1
   have h4:=wb.2 _ h2.2
   rw[zF hw k p.1 p.2 ⟨h3.1,by omega⟩ ⟨h4.1,by omega⟩ (by omega) (by omega) k' (by omega)]
  rw[eW]
  congr 1
  by_cases h2:(cJ ts a).k=3
  ·rw[aH h2,aH h2]
   have h3:=wa.1 h2
   have h4:=wb.1 (h1▸h2)
   rw[zF hw k _ _ ⟨h3.1,by omega⟩ ⟨h4.1,by omega⟩ (by omega) (by omega) k' (by omega),zF hw k _ _ ⟨h4.1,by omega⟩ ⟨h3.1,by omega⟩ (by omega) (by omega) k' (by omega)]
  ·rw[aD h2,aD h2]
noncomputable def oB (l:List (Int×Int)) (n:Int) (ts:List cQ) (a b:Int):Bool:=KS l n ts ts.length a b
theorem XF {l:List (Int×Int)} {n:Int} {ts:List cQ} (hw:vY ts) {a b:Int} (ha:dG ts.length a) (hb:dG ts.length b):
  oB l n ts a b=(decide ((cJ ts a).k=(cJ ts b).k)&&(decide ((cJ ts a).m=(cJ ts b).m)&&(decide ((cJ ts a).ar.length=(cJ ts b).ar.length)&&
   ((if (cJ ts a).k=3 then j5 l n (cJ ts a).r (cJ ts b).r&&(oB l n ts (cJ ts a).e (cJ ts b).e&&(!(cJ ts a).m||oB l n ts (cJ ts b).e (cJ ts a).e)) else true)&&
    ((cJ ts a).ar.zip (cJ ts b).ar).all fun p=>oB l n ts p.1 p.2)))):=by
 have h:=zF (l:=l) (n:=n) hw ts.length a b ha hb (by unfold dG at ha;omega) (by unfold dG at hb;omega) (ts.length+1) (by omega)
 unfold oB
 rw[<-h]
 simp only[KS]
open Classical in
noncomputable def GH (l:List (Int×Int)) (n:Int) (ts:List cQ) (a b:Int):Bool:=if dG ts.length a/\dG ts.length b then oB l n ts a b else false
theorem ET {l:List (Int×Int)} {n:Int} {ts:List cQ} {a b:Int} (h:¬(dG ts.length a/\dG ts.length b)):GH l n ts a b=false:=aD h
theorem JK {l:List (Int×Int)} {n:Int} {ts:List cQ} {a b:Int} (ha:dG ts.length a) (hb:dG ts.length b):GH l n ts a b=oB l n ts a b:=aH ⟨ha,hb⟩
theorem aAR {f:Int->Int->Bool} {x y:List Int} (h:∀j (h:j<x.length) (h':j<y.length),f x[j] y[j]=true):((x.zip y).all fun p=>f p.1 p.2)=true:=by
 rw[eD]
 intro p hp
 obtain⟨j,hj,rfl⟩:=wM hp
 rw[List.length_zip] at hj
 rw[List.getElem_zip]
 exact h j (by omega) (by omega)
theorem aAQ {f:Int->Int->Bool} {x y:List Int} {j:Nat} (h1:j<x.length) (h2:j<y.length) (h:f x[j] y[j]=false):((x.zip y).all fun p=>f p.1 p.2)=false:=by
 rw[Bool.eq_false_iff]
 intro hc
 rw[eD] at hc
 have hj:j<(x.zip y).length:=by rw[List.length_zip];omega
 have:=hc _ (bZ hj)
 rw[List.getElem_zip,h] at this
 cases this
theorem aHV (l:List (Int×Int)) (n:Int) (ts:List cQ) (hw:vY ts) (jX:∀p∈l,dG n p.1/\dG n p.2) (hn:n<=1000000) (hl:l.length<=1000000) (sM:ts.length<=1000000) (nM:∀t∈ts,t.ar.length<=140737488351232):
  ∀(kk:Nat) (a b:Int) (H:aA),a<kk->b<kk->aT prog 299 [.seq 2 (l.map pD),i64 n,.seq 5 (ts.map cE),i64 a,i64 b] H fun d H'=>d=.val (.bool (GH l n ts a b))/\H=H':=by
 intro kk
 induction kk using Nat.strongRecOn with
 |ind kk ih=>
  intro a b H haN hbN
  refine bM (K:=fun d=>d=.val (.bool (GH l n ts a b))) ?_
  have fB:=lm cE ts
  refine aN _ _ func299 rfl rfl ntmps299 results299 (by simp) fun w0 g0 Q aC=>?_
  have xX:=aE H
  by_cases h1:a<0
  ·have p1:(a<0)=True:=aK h1
   have eE:=ET (l:=l) (n:=n) (ts:=ts) (a:=a) (b:=b) fun h=>by have:=h.1.1;omega
   refine tq p1 ?_;intro Nx aB Gx aG;refine rt aC trivial ?_;exact⟨_,aE _,xX,_,aJ xX,by rw[eE]⟩
  have p1:(a<0)=False:=aI h1
  by_cases h2:(ts.length:Int)<=a
  ·have p2:((ts.length:Int)<=a)=True:=aK h2
   have eE:=ET (l:=l) (n:=n) (ts:=ts) (a:=a) (b:=b) fun h=>by have:=h.1.2;omega
   refine tq (dZ p1 p2 fB) ?_;intro Nx aB Gx aG;refine rt aC trivial ?_;exact⟨_,aE _,xX,_,aJ xX,by rw[eE]⟩
  have p2:((ts.length:Int)<=a)=False:=aI h2
  by_cases h3:b<0
  ·have p3:(b<0)=True:=aK h3
   have eE:=ET (l:=l) (n:=n) (ts:=ts) (a:=a) (b:=b) fun h=>by have:=h.2.1;omega
   refine tq (fJ p1 p2 p3 fB) ?_;intro Nx aB Gx aG;refine rt aC trivial ?_;exact⟨_,aE _,xX,_,aJ xX,by rw[eE]⟩
  have p3:(b<0)=False:=aI h3
  by_cases h4:(ts.length:Int)<=b
  ·have p4:((ts.length:Int)<=b)=True:=aK h4
   have eE:=ET (l:=l) (n:=n) (ts:=ts) (a:=a) (b:=b) fun h=>by have:=h.2.2;omega
   refine tq (gE p1 p2 p3 p4 fB) ?_;intro Nx aB Gx aG;refine rt aC trivial ?_;exact⟨_,aE _,xX,_,aJ xX,by rw[eE]⟩
  have p4:((ts.length:Int)<=b)=False:=aI h4
  have ha:dG ts.length a:=⟨by omega,by omega⟩
  have hb:dG ts.length b:=⟨by omega,by omega⟩
  have mI:=(JK (l:=l) (n:=n) ha hb).trans (XF hw ha hb)
  have GR:=kC ha
  have WC:=kC hb
  have wa:=v7 hw ha
  have wb:=v7 hw hb
  have IL:(cJ ts a).ar.length<=140737488351232:=by obtain⟨h',he⟩:=vA ha;rw[he];exact nM _ (bZ h')
  obtain⟨t,ht⟩:∃t,t=cJ ts a:=⟨_,rfl⟩
  obtain⟨u,hu⟩:∃u,u=cJ ts b:=⟨_,rfl⟩
  rw[<-ht] at GR mI wa IL
  rw[<-hu] at WC mI wb
  obtain⟨tk,tm,tr,te,ta⟩:=t
  obtain⟨uk,um,ur,ue,ua⟩:=u
  simp only[cE] at GR WC mI wa wb IL
  have h0a:0<=a:=ha.1
  have h0b:0<=b:=hb.1
  have sH:a.toNat<ts.length:=by omega
  have nX:b.toNat<ts.length:=by omega
  have D8:a<(ts.length:Int):=by omega
  have aDo:b<(ts.length:Int):=by omega
  refine tq (P0 p1 p2 p3 p4 fB GR WC h0a h0b sH nX D8 aDo) ?_;intro Nx aB Gx aG
  intro b11 aGh
  refine aB _ ?_
  refine fW 11 aGh ?_
  refine tq (yP fB GR WC h0a h0b sH nX D8 aDo) ?_;intro Nx aB Gx aG
  intro b12 aDm
  refine aB _ ?_
  refine fW 12 aDm ?_
  have J2:=lm iD ta
  have hua:=lm iD ua
  by_cases g1:tk=uk
  case neg=>
   have q1:(tk=uk)=False:=aI g1
   have eE:GH l n ts a b=false:=by rw[mI];simp [g1]
   refine tq q1 ?_;intro Nx aB Gx aG;refine rt aC trivial ?_;exact⟨_,aE _,xX,_,aJ xX,by rw[eE]⟩
  have q1:(tk=uk)=True:=aK g1
  by_cases g2:tm=um
  case neg=>
   have q2:(tm=um)=False:=aI g2
   have eE:GH l n ts a b=false:=by rw[mI];simp [g2]
   refine tq (cZ q1 q2) ?_;intro Nx aB Gx aG;refine rt aC trivial ?_;exact⟨_,aE _,xX,_,aJ xX,by rw[eE]⟩
  have q2:(tm=um)=True:=aK g2
  by_cases g3:ta.length=ua.length
  case neg=>
   have q3:((ta.length:Int)=(ua.length:Int))=False:=aI (by omega)
   have eE:GH l n ts a b=false:=by rw[mI];simp [g3]
   refine tq (gE q1 q2 q3 J2 hua) ?_;intro Nx aB Gx aG;refine rt aC trivial ?_;exact⟨_,aE _,xX,_,aJ xX,by rw[eE]⟩
  have q3:((ta.length:Int)=(ua.length:Int))=True:=aK (by omega)
  rw[bF g1,bF g2,bF g3,cT,cT,cT] at mI
  refine tq (gE q1 q2 q3 J2 hua) ?_;intro Nx aB Gx aG
  refine bB ta.length (fun i s=>s.df=[]/\s.fr 0=.seq 2 (l.map pD)/\s.fr 1=i64 n/\s.fr 2=.seq 5 (ts.map cE)/\s.fr 11=.rp [i64 tk,.val (.bool tm),i64 tr,i64 te,.seq 1 (ta.map iD)]/\s.fr 12=.rp [i64 uk,.val (.bool um),i64 ur,i64 ue,.seq 1 (ua.map iD)]/\s.fr 13=i64 i/\s.H=H/\∀j (h:j<ta.length) (h':j<ua.length),j<i->oB l n ts ta[j] ua[j]=true) ⟨rfl,rfl,rfl,rfl,rfl,rfl,rfl,rfl,by simp⟩ ?_
  rintro i s hi ⟨bG,f0,f1,f2,f11,f12,f13,hH,eW⟩
  have hx:=bL i
  have cL:=bY i
  by_cases aZ:i<ta.length
  case pos=>
   have q4:=lT i ta.length (by omega)
   have QU:i<ua.length:=by omega
   have b8:=dL aZ
   have ZD:=dL QU
   have w3:=wS i (by omega)
   have hxa:=wa.2 ta[i] (bZ aZ)
   have hya:=wb.2 ua[i] (bZ QU)
   have hvx:=JK (l:=l) (n:=n) (ts:=ts) (a:=ta[i]) (b:=ua[i]) ⟨hxa.1,by omega⟩ ⟨hya.1,by omega⟩
   have dK:dY prog 299 [.seq 2 (l.map pD),i64 n,.seq 5 (ts.map cE),i64 ta[i],i64 ua[i]] H fun d A=>A=aA.none/\d=.val (.bool (GH l n ts ta[i] ua[i])):=
    bN fun eL eO=>ih (kk - 1) (by omega) ta[i] ua[i] eL (by omega) (by omega)
   rw[hvx] at dK
   refine tq (fJ f11 f13 J2 q4) ?_;intro Nx aB Gx aG
   obtain⟨x,CW⟩:∃x,x=ta[i]:=⟨_,rfl⟩
   obtain⟨y,ZJ⟩:∃y,y=ua[i]:=⟨_,rfl⟩
   rw[<-CW] at b8 dK
   rw[<-ZJ] at ZD dK
   cases hv:oB l n ts x y with
   |false=>
    rw[hv] at dK
    refine dE (fun _ _ d A=>A=.none/\d=.val (.bool false)) fun Nx aB=>?_;refine dst (aGT f0 f1 f2 f11 f12 f13 J2 hua b8 ZD hx cL aZ QU hH) ?_;intro Nx aB Gx aG
    refine⟨dK,aB _ ?_⟩
    refine tq trivial ?_;intro Nx aB Gx aG
    refine rt aC bG ?_
    have hzf:=aAQ (f:=oB l n ts) aZ QU (by rw[<-CW,<-ZJ];exact hv)
    exact⟨_,aE _,xX,_,aJ xX,by rw[mI,hzf,kH]⟩
   |true=>
    rw[hv] at dK
    refine dE (fun _ _ d A=>A=.none/\d=.val (.bool true)) fun Nx aB=>?_;refine dst (aGT f0 f1 f2 f11 f12 f13 J2 hua b8 ZD hx cL aZ QU hH) ?_;intro Nx aB Gx aG
    refine⟨dK,aB _ ?_⟩
    refine tq (cZ f13 w3) ?_;intro Nx aB Gx aG
    refine⟨aZ,bG,f0,f1,f2,f11,f12,rfl,rfl,fun j h h' hj=>?_⟩
    by_cases hje:j=i
    ·subst hje;rw[<-CW,<-ZJ];exact hv
    ·exact eW j h h' (by omega)
  case neg=>
   have q4:=lF i ta.length (by omega)
   have hzt:=aAR (f:=oB l n ts) (x:=ta) (y:=ua) fun j h h'=>eW j h h' (by omega)
   rw[hzt,nW] at mI
   have aX:H.le s.H:=by rw[hH];exact xX
   by_cases h5:tk=3
   case neg=>
    have q5:(tk=3)=False:=aI h5
    rw[aD h5] at mI
    refine tq (gE f11 f13 J2 q4 q5) ?_;intro Nx aB Gx aG
    refine rt aC bG ?_
    exact⟨_,aE _,aX,_,aJ aX,by rw[mI]⟩
   have q5:(tk=3)=True:=aK h5
   rw[aH h5] at mI
   have hea:=wa.1 h5
   have heb:=wb.1 (g1▸h5)
   have hv1:=JK (l:=l) (n:=n) (ts:=ts) (a:=te) (b:=ue) ⟨hea.1,by omega⟩ ⟨heb.1,by omega⟩
   have hv2:=JK (l:=l) (n:=n) (ts:=ts) (a:=ue) (b:=te) ⟨heb.1,by omega⟩ ⟨hea.1,by omega⟩
   refine tq (yP f0 f1 f2 f11 f12 f13 J2 q4 q5) ?_;intro Nx aB Gx aG
   refine(WQ l n tr ur _ jX hn hl).mono ?_
   rintro d _ ⟨rfl,rfl⟩
   cases ho:j5 l n tr ur with
   |false=>
    rw[ho,fS] at mI
    refine tq (jA f0 f1 f2 f11 f12 f13) ?_;intro Nx aB Gx aG
    refine rt aC bG ?_
    exact⟨_,aE _,aX,_,aJ aX,by rw[mI]⟩
   |true=>
    rw[ho,cT] at mI
    refine tq (jA f0 f1 f2 f11 f12 f13) ?_;intro Nx aB Gx aG
    refine(ih (kk - 1) (by omega) te ue _ (by omega) (by omega)).mono ?_
    rintro d _ ⟨rfl,rfl⟩
    rw[hv1]
    cases N0:oB l n ts te ue with
    |false=>
     rw[N0,fS] at mI
     refine tq (jA f0 f1 f2 f11 f12 f13) ?_;intro Nx aB Gx aG
     refine rt aC bG ?_
     exact⟨_,aE _,aX,_,aJ aX,by rw[mI]⟩
    |true=>
     rw[N0,cT] at mI
     by_cases B5:tm=true
     case neg=>
      have ZI:tm=false:=by simpa using B5
      rw[ZI] at mI
      refine tq (lM f0 f1 f2 f11 f12 f13 ZI) ?_;intro Nx aB Gx aG
      refine rt aC bG ?_
      exact⟨_,aE _,aX,_,aJ aX,by rw[mI] <;> rfl⟩
     rw[B5] at mI
     refine tq (lM f0 f1 f2 f11 f12 f13 B5) ?_;intro Nx aB Gx aG
     refine(ih (kk - 1) (by omega) ue te _ (by omega) (by omega)).mono ?_
     rintro d _ ⟨rfl,rfl⟩
     rw[hv2]
     refine tq (lM f0 f1 f2 f11 f12 f13 B5) ?_;intro Nx aB Gx aG
     refine rt aC bG ?_
     exact⟨_,aE _,aX,_,aJ aX,by rw[mI] <;> rfl⟩
end Go.Proofs.YtelbfbioomcmeaaGreatDoor

