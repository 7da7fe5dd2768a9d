/- Lemmas and contracts of functions, several texts in one. -/
import Derived.Test.YtfiipaodjpiooaaGreatDoorQ20
import Derived.Test.YtfiipaodjpiooaaGreatDoorQ19
set_option maxRecDepth 100000
set_option maxHeartbeats 4000000
set_option linter.all false
namespace Go.Proofs.YtfiipaodjpiooaaGreatDoor
open Go.RowKit
noncomputable def DA (l:List (Int×Int)) (n:Int) (o:List Int) (i:Nat):List Int:=((List.range i).map (fun k:Nat=>(k:Int))).filter fun x=>o.any (lL l n x)
theorem aEc (l:List (Int×Int)) (n:Int) (o:List Int) (i:Nat):(DA l n o i).length<=i:=by
 unfold DA
 refine qQ (r9 _ _) ?_
 rw[bC,PY];exact dI _
open Tryz
theorem aET {a b:dS}:a=b↔a.k=b.k/\a.m=b.m/\a.r=b.r/\a.e=b.e/\a.ar=b.ar:=by
 cases a;cases b;simp
theorem ZI {l m:List Int} {i:Nat} (h:l.take i=m.take i) (h1:i<l.length) (h2:i<m.length) (he:l[i]=m[i]):l.take (i+1)=m.take (i+1):=by
 rw[dH h1,dH h2,h,he]
theorem aOh (a b:dS) (H:aC) (rJ:a.ar.length<=140737488351232):bE prog 168 [.agg (cP a),.agg (cP b)] H fun d H'=>d=.val (.bool (decide (a=b)))/\H=H':=by
 refine bO (K:=fun d=>d=.val (.bool (decide (a=b)))) ?_
 obtain⟨ak,am,ar,ae,aa⟩:=a
 obtain⟨bk,bm,br,be,ba⟩:=b
 have GJ:=aET (a:=⟨ak,am,ar,ae,aa⟩) (b:=⟨bk,bm,br,be,ba⟩)
 simp only at GJ rJ
 simp only[cP]
 have tN:=lm iD aa
 have hlb:=lm iD ba
 have aS:=aG H
 refine aQ _ _ func168 rfl rfl ntmps168 results168 (by simp) fun w0 g0 Q aD=>?_
 refine tq trivial ?_;intro Nx aB Gx aF
 intro c2 lH c3 j5
 have fM:c2≠c3:=nZ (aO _ _ _) j5
 have N6:H c3=none:=(bY.1 j5).2
 refine aB _ ?_
 refine cA 2 rfl ((aN fM).trans (aO _ _ _)) rfl ?_
 refine cA 3 rfl ((bS fM.symm).trans (aO _ _ _)) rfl ?_
 refine eV H (fun x z hz=>?_) ?_
 ·have e1:x≠c2:=fun e=>by rw[e,lH] at hz;cases hz
  have e2:x≠c3:=fun e=>by rw[e,N6] at hz;cases hz
  show((((H.bH c2 _).bH c3 _).del c2).del c3) x=_
  rw[bS e2,bS e1,aN e2,aN e1]
  exact hz
 simp only[St.jH,List.drop]
 by_cases g1:ak=bk
 case neg=>
  have q1:(ak=bk)=False:=aI g1
  have fG:decide ((⟨ak,am,ar,ae,aa⟩:dS)=⟨bk,bm,br,be,ba⟩)=false:=bB fun h=>g1 (GJ.1 h).1
  refine tq q1 ?_;intro Nx aB Gx aF;refine rt aD trivial ?_;exact⟨_,aG _,aS,_,aH aS,by rw[fG]⟩
 have q1:(ak=bk)=True:=aK g1
 by_cases g2:am=bm
 case neg=>
  have q2:(am=bm)=False:=aI g2
  have fG:decide ((⟨ak,am,ar,ae,aa⟩:dS)=⟨bk,bm,br,be,ba⟩)=false:=bB fun h=>g2 (GJ.1 h).2.1
  refine tq (dG q1 q2) ?_;intro Nx aB Gx aF;refine rt aD trivial ?_;exact⟨_,aG _,aS,_,aH aS,by rw[fG]⟩
 have q2:(am=bm)=True:=aK g2
 by_cases g3:ar=br
 case neg=>
  have q3:(ar=br)=False:=aI g3
  have fG:decide ((⟨ak,am,ar,ae,aa⟩:dS)=⟨bk,bm,br,be,ba⟩)=false:=bB fun h=>g3 (GJ.1 h).2.2.1
  refine tq (eA q1 q2 q3) ?_;intro Nx aB Gx aF;refine rt aD trivial ?_;exact⟨_,aG _,aS,_,aH aS,by rw[fG]⟩
 have q3:(ar=br)=True:=aK g3
 by_cases g4:ae=be
 case neg=>
  have q4:(ae=be)=False:=aI g4
  have fG:decide ((⟨ak,am,ar,ae,aa⟩:dS)=⟨bk,bm,br,be,ba⟩)=false:=bB fun h=>g4 (GJ.1 h).2.2.2.1
  refine tq (gQ q1 q2 q3 q4) ?_;intro Nx aB Gx aF;refine rt aD trivial ?_;exact⟨_,aG _,aS,_,aH aS,by rw[fG]⟩
 have q4:(ae=be)=True:=aK g4
 by_cases g5:aa.length=ba.length
 case neg=>
  have q5:((aa.length:Int)=(ba.length:Int))=False:=aI (by omega)
  have fG:decide ((⟨ak,am,ar,ae,aa⟩:dS)=⟨bk,bm,br,be,ba⟩)=false:=bB fun h=>g5 (by rw[(GJ.1 h).2.2.2.2])
  refine tq (nF tN hlb q1 q2 q3 q4 q5) ?_;intro Nx aB Gx aF;refine rt aD trivial ?_;exact⟨_,aG _,aS,_,aH aS,by rw[fG]⟩
 have q5:((aa.length:Int)=(ba.length:Int))=True:=aK (by omega)
 refine tq (nF tN hlb q1 q2 q3 q4 q5) ?_;intro Nx aB Gx aF
 refine aZ aa.length (fun i s=>s.df=[]/\s.fr 2=.rp [i64 ak,.val (.bool am),i64 ar,i64 ae,.seq 1 (aa.map iD)]/\s.fr 3=.rp [i64 bk,.val (.bool bm),i64 br,i64 be,.seq 1 (ba.map iD)]/\s.fr 5=i64 i/\s.H=H/\aa.take i=ba.take i) ⟨rfl,rfl,rfl,rfl,rfl,rfl⟩ ?_
 rintro i s hi ⟨aT,f2,f3,f5,hH,pY⟩
 have hx:=bI i
 have cJ:=bM i
 have aY:H.le s.H:=by rw[hH];exact aS
 by_cases aV:i<aa.length
 case neg=>
  have q6:=lF i aa.length (by omega)
  rw[cW (by omega),cW (by omega)] at pY
  have fG:decide ((⟨ak,am,ar,ae,aa⟩:dS)=⟨bk,bm,br,be,ba⟩)=true:=bG (GJ.2 ⟨g1,g2,g3,g4,pY⟩)
  refine tq (gQ f2 f5 tN q6) ?_;intro Nx aB Gx aF
  refine rt aD aT ?_
  exact⟨_,aG _,aY,_,aH aY,by rw[fG]⟩
 have q6:=lT i aa.length (by omega)
 have hib:i<ba.length:=by omega
 have EK:=cO aV
 have LU:=cO hib
 have w3:=wS i (by omega)
 refine tq (gQ f2 f5 tN q6) ?_;intro Nx aB Gx aF
 by_cases he:aa[i]=ba[i]
 case neg=>
  have q7:(aa[i]=ba[i])=False:=aI he
  have fG:decide ((⟨ak,am,ar,ae,aa⟩:dS)=⟨bk,bm,br,be,ba⟩)=false:=bB fun h=>he (by have:=(GJ.1 h).2.2.2.2;subst this;rfl)
  refine dE (fun _ _ _ _=>False) fun Nx aB=>?_;refine dst (zY f2 f3 f5 tN hlb EK LU hx cJ aV hib q7) ?_;intro Nx aB Gx aF
  refine tq trivial ?_;intro Nx aB Gx aF
  refine rt aD aT ?_
  exact⟨_,aG _,aY,_,aH aY,by rw[fG]⟩
 have q7:(aa[i]=ba[i])=True:=aK he
 refine dE (fun _ _ _ _=>False) fun Nx aB=>?_;refine dst (zY f2 f3 f5 tN hlb EK LU hx cJ aV hib q7) ?_;intro Nx aB Gx aF
 refine tq (dG f5 w3) ?_;intro Nx aB Gx aF
 exact⟨aV,aT,f2,f3,rfl,hH,ZI pY aV hib he⟩
theorem aKo (ts:List dS) (t:dS) (H:aC) (wI:ts.length<=140737488351232) (oF:∀u∈ts,u.ar.length<=140737488351232):bE prog 139 [.seq 5 (ts.map cP),.agg (cP t)] H fun d H'=>d=i64 (xU t ts 0)/\H=H':=by
 refine bO (K:=fun d=>d=i64 (xU t ts 0)) ?_
 have fN:=lm cP ts
 refine aQ _ _ func139 rfl rfl ntmps139 results139 (by simp) fun w0 g0 Q aD=>?_
 refine tq @cP.eq_1 ?_;intro Nx aB Gx aF
 intro c3 j5
 refine aB _ ?_
 refine fZ 3 j5 ?_
 refine tq trivial ?_;intro Nx aB Gx aF
 refine aZ ts.length (fun i s=>s.df=[]/\s.fr 0=.seq 5 (ts.map cP)/\s.fr 3=.rp (cP t)/\s.fr 5=i64 i/\s.H=H/\xU t ts 0=xU t (ts.drop i) i) ⟨rfl,rfl,rfl,rfl,rfl,rfl⟩ ?_
 rintro i s hi ⟨aT,f0,f3,f5,hH,hf⟩
 have hx:=bI i
 have cJ:=bM i
 have aY:H.le s.H:=by rw[hH];exact aG _
 by_cases aV:i<ts.length
 case neg=>
  have q6:=lF i ts.length (by omega)
  rw[eT (by omega)] at hf
  refine tq (gQ f0 f5 fN q6) ?_;intro Nx aB Gx aF
  refine rt aD aT ?_
  exact⟨_,aG _,aY,_,aH aY,by rw[hf] <;> rfl⟩
 have q6:=lT i ts.length (by omega)
 have w3:=wS i (by omega)
 have RJ:=oF ts[i] (bU aV)
 have cD:(ts.map cP)[i]?=some (cP ts[i]):=by rw[dN,bX aV];rfl
 rw[eH aV,xU] at hf
 obtain⟨u,hu⟩:∃u,u=ts[i]:=⟨_,rfl⟩
 rw[<-hu] at cD hf RJ
 have eP:eF prog 168 [.agg (cP u),.agg (cP t)] s.H fun d A=>A=aC.none/\d=.val (.bool (decide (u=t))):=cF fun gI gX=>aOh u t gI RJ
 obtain⟨uk,um,ur,ue,ua⟩:=u
 obtain⟨tk,tm,tr,te,ta⟩:=t
 simp only[cP] at cD f3 eP
 refine tq (gQ f0 f5 fN q6) ?_;intro Nx aB Gx aF
 by_cases he:(⟨uk,um,ur,ue,ua⟩:dS)=⟨tk,tm,tr,te,ta⟩
 ·rw[aE he] at hf
  rw[bG he] at eP
  refine dE (fun _ _ d A=>A=.none/\d=.val (.bool true)) fun Nx aB=>?_;refine dst (wG f0 f3 f5 fN cD hx cJ aV) ?_;intro Nx aB Gx aF
  refine⟨eP,?_⟩
  (first|refine aF _ ?_|refine aB _ ?_|skip)
  refine dst trivial ?_;intro Nx aB Gx aF
  refine tq f5 ?_;intro Nx aB Gx aF
  refine rt aD aT ?_
  exact⟨_,aG _,aY,_,aH aY,by rw[hf] <;> rfl⟩
 ·rw[aA he] at hf
  rw[bB he] at eP
  refine dE (fun _ _ d A=>A=.none/\d=.val (.bool false)) fun Nx aB=>?_;refine dst (wG f0 f3 f5 fN cD hx cJ aV) ?_;intro Nx aB Gx aF
  refine⟨eP,?_⟩
  (first|refine aF _ ?_|refine aB _ ?_|skip)
  refine dst trivial ?_;intro Nx aB Gx aF
  refine tq (dG f5 w3) ?_;intro Nx aB Gx aF
  exact⟨aV,aT,f0,f3,rfl,hH,hf⟩
theorem uJ {d:List Int} {i:Nat} (h:i<d.length):(d.map iD)[i]?=some [.val (.int .i64 (d.getD i 0))]:=by
 rw[cO h,oT,bX h];rfl
theorem Gl.os {H0:aC} {e:TypeId} {d:D} {H:aC} {ob:Option Nat} {l:List Int} (h:Gl H0 e 1 (l.map iD) d H ob) (hl:0<l.length):∃c o,d=.os c o 1 0 l.length/\H0 c=none/\H c=some (.row e o 1 (l.map iD)):=by
 rcases h with⟨_,_,h⟩|⟨c,o,_,h1,h2,h3⟩
 ·rw[List.map_eq_nil_iff] at h;rw[h] at hl;simp at hl
 ·exact⟨c,o,by rw[h1,bC],h2,h3⟩
theorem aD9 (ts:List dS) (n:Nat) (H:aC) (hn:n<=ts.length) (wI:ts.length<=1000000) (oF:∀u∈ts,u.ar.length<=140737488351232) (hw:zJ (ts.take n)):bE prog 89 [.seq 5 (ts.map cP),i64 n] H fun d H'=>d=.seq 1 ((kR (ts.take n)).map iD)/\H=H':=by
 refine bO (K:=fun d=>d=.seq 1 ((kR (ts.take n)).map iD)) ?_
 have fN:=lm cP ts
 refine aQ _ _ func89 rfl rfl ntmps89 results89 (by simp) fun w0 g0 Q aD=>?_
 refine tq trivial ?_;intro Nx aB Gx aF
 refine aZ n (fun i s=>s.df=[]/\s.fr 0=.seq 5 (ts.map cP)/\s.fr 1=i64 n/\s.fr 6=i64 i/\H.le s.H/\∃ob,Gl H 3 1 ((kR (ts.take i)).map iD) (s.fr 5) s.H ob) ⟨rfl,rfl,rfl,rfl,aG _,none,iW _ _ _ _⟩ ?_
 rintro i s hi ⟨aT,f0,f1,f6,aS,ob,hg⟩
 by_cases aV:i<n
 case neg=>
  have q1:((i:Int)<(n:Int))=False:=aI (by omega)
  have iI:i=n:=by omega
  subst iI
  refine tq (eA f1 f6 q1) ?_;intro Nx aB Gx aF
  refine rt aD aT ?_
  exact⟨_,aG _,aS,_,qL aS hg,rfl⟩
 have q1:((i:Int)<(n:Int))=True:=aK (by omega)
 have hx:=bI i
 have cJ:=bM i
 have hit:i<ts.length:=by omega
 have w3:=wS i (by omega)
 have cD:(ts.map cP)[i]?=some (cP ts[i]):=by rw[dN,bX hit];rfl
 have RJ:=oF ts[i] (bU hit)
 have hwi:=hw i (by rw[dU];omega)
 rw[PZ] at hwi
 have wH:=aEh hit
 have hdl:(kR (ts.take i)).length=i:=by rw[EB,dU];omega
 have hbd:=OR (ts.take i)
 rw[dU,zR (by omega)] at hbd
 have pB:=O3 (b:=i) (fun x hx=>(hbd x hx).2) (by omega) ts[i]
 have jG:=O2 (fun x hx=>by have:=hbd x hx;omega) ts[i]
 obtain⟨dd,hdd⟩:∃dd,dd=kR (ts.take i):=⟨_,rfl⟩
 rw[<-hdd] at wH hdl pB jG hg
 have hkm:vG dd ts[i]=ts[i].ar.foldl (vR dd) (if ts[i].k=3 then dd.getD ts[i].e.toNat 0 else 0):=rfl
 obtain⟨u,hu⟩:∃u,u=ts[i]:=⟨_,rfl⟩
 rw[<-hu] at cD RJ hwi wH pB jG hkm
 obtain⟨uk,um,ur,ue,ua⟩:=u
 simp only[cP] at cD RJ hwi hkm
 obtain⟨km,aOP⟩:∃km,km=vG dd ⟨uk,um,ur,ue,ua⟩:=⟨_,rfl⟩
 rw[<-aOP] at wH pB jG hkm
 have tN:=lm iD ua
 obtain⟨d5,hd5⟩:∃d5,d5=s.fr 5:=⟨_,rfl⟩
 rw[<-hd5] at hg
 (have fs:=And.intro f0 (And.intro f1 (And.intro f6 (And.intro q1 (And.intro cD (And.intro hx (And.intro cJ (And.intro hit fN)))))));(iterate 12 (first|refine aF _ ?_|refine aB _ ?_|refine dW ?_|refine dV ?_|refine fE ?_|refine cU ?_|refine cV ?_|refine cL ?_|refine bP ?_|((first|refine tS fun Nx aB=>?_|refine mS rfl rfl (by kernel_rfl) (by kernel_rfl) fun Gx aF=>?_|refine cH (by kernel_rfl) ?_|refine mJ fun A B wL wM=>?_);refine qK ?_;(first|refine aF _ ?_|refine aB _ ?_|refine wL ?_|refine wM ?_|skip))));(try clear fs))
 refine I0 (fun s1=>s1.df=[]/\s1.fr 0=.seq 5 (ts.map cP)/\s1.fr 1=i64 n/\s1.fr 6=i64 i/\s1.H=s.H/\s1.fr 5=d5/\s1.fr 7=i64 (if uk=3 then dd.getD ue.toNat 0 else 0)) ?_ ?_
 ·by_cases h3:uk=3
  ·have q3:(uk=3)=True:=aK h3
   have hue:=hwi.1 h3
   obtain⟨c,o,f5,AL,K4⟩:=Gl.os hg (by omega)
   rw[hd5] at f5
   have X8:=uJ (d:=dd) (i:=ue.toNat) (by omega)
   have h0u:0<=ue:=hue.1
   have K7:(ue<(dd.length:Int))=True:=aK (by omega)
   rw[aE h3]
   refine tq (W7 f0 f5 f6 q3 cD hx cJ hit fN K4 X8 h0u K7) ?_;intro Nx aB Gx aF
   exact⟨aT,f0,f1,f6,rfl,by rw[hd5,<-f5] <;> rfl,rfl⟩
  ·have q3:(uk=3)=False:=aI h3
   rw[aA h3]
   refine tq (eA f0 f6 q3) ?_;intro Nx aB Gx aF
   exact⟨aT,f0,f1,f6,rfl,hd5.symm,rfl⟩
 rintro s1 ⟨pP,g0,g1,g6,uK,g5,g7⟩
 refine tq trivial ?_;intro Nx aB Gx aF
 refine aZ ua.length (fun (j:Nat) (s':St)=>s'.df=[]/\s'.fr 0=.seq 5 (ts.map cP)/\s'.fr 1=i64 n/\s'.fr 6=i64 i/\s'.H=s.H/\s'.fr 5=d5/\s'.fr 8=i64 j/\s'.fr 7=i64 ((ua.take j).foldl (vR dd) (if uk=3 then dd.getD ue.toNat 0 else 0))) ⟨pP,g0,g1,g6,uK,g5,rfl,g7⟩ ?_
 rintro j s2 hj ⟨qX,k0,k1,k6,mV,k5,k8,k7⟩
 have hjx:=bI j
 have xB:=bM j
 by_cases fQ:j<ua.length
 case neg=>
  have q2:=lF j ua.length (by omega)
  rw[cW (by omega),<-hkm] at k7
  have w4:IntKind.i64.wrap (km+1)=km+1:=bF (by omega)
  have GL:Gl H 3 1 (dd.map iD) (s2.fr 5) s2.H ob:=by rw[k5,mV];exact hg
  have pC:H.le s2.H:=by rw[mV];exact aS
  refine tq (zY k0 k6 k7 k8 q2 w4 cD hx cJ hit fN tN) ?_;intro Nx aB Gx aF
  refine dD (e:=3) kZ rfl kZ rfl PF rfl (by decide) pC GL (new:=[iD (km+1)]) (by exact⟨rfl,rfl⟩) (by rw[bC];show(_+1) * 8<=_;omega) fun d H6 oG j6 eM _=>?_
  rw[show[iD (km+1)]=[km+1].map iD from rfl,<-cQ,<-wH] at j6
  refine tq (dG k6 w3) ?_;intro Nx aB Gx aF
  exact⟨aV,qX,k0,k1,rfl,eM,oG,j6⟩
 have q2:=lT j ua.length (by omega)
 have qR:=cO fQ
 have X6:=hwi.2 ua[j] (bU fQ)
 have oJ:(ua.take (j+1)).foldl (vR dd) (if uk=3 then dd.getD ue.toNat 0 else 0)=max ((ua.take j).foldl (vR dd) (if uk=3 then dd.getD ue.toNat 0 else 0)) (dd.getD ua[j].toNat 0):=by
  rw[dH fQ,zP];rfl
 obtain⟨f,hfe⟩:∃f,f=ua[j]:=⟨_,rfl⟩
 rw[<-hfe] at qR X6 oJ
 obtain⟨c,o,f5,AL,K4⟩:=Gl.os hg (by omega)
 have k5':=k5.trans f5
 rw[<-mV] at K4
 have X8:=uJ (d:=dd) (i:=f.toNat) (by omega)
 have h0u:0<=f:=X6.1
 have K7:(f<(dd.length:Int))=True:=aK (by omega)
 have w4:=wS j (by omega)
 refine tq (aNX k0 k5' k6 k7 k8 q2 w4 cD hx cJ hit fN tN qR hjx xB fQ K4 X8 h0u K7) ?_;intro Nx aB Gx aF
 exact⟨fQ,qX,k0,k1,k6,mV,k5,rfl,by rw[oJ] <;> rfl⟩
theorem aOa (ts:List dS) (i:Int) (H:aC) (wI:ts.length<=1000000) (oF:∀u∈ts,u.ar.length<=140737488351232) (hw:zJ ts):bE prog 44 [.seq 5 (ts.map cP),i64 i] H fun d H'=>d=i64 (QP ts i)/\H=H':=by
 refine bO (K:=fun d=>d=i64 (QP ts i)) ?_
 have fN:=lm cP ts
 have aS:=aG H
 refine aQ _ _ func44 rfl rfl ntmps44 results44 (by simp) fun w0 g0 Q aD=>?_
 by_cases h1:i<0
 ·have q1:(i<0)=True:=aK h1
  refine tq q1 ?_;intro Nx aB Gx aF
  refine rt aD trivial ?_
  exact⟨_,aG _,aS,_,aH aS,by unfold QP;rw[aA (fun h=>by have:=h.1;omega)]⟩
 have q1:(i<0)=False:=aI h1
 by_cases h2:(ts.length:Int)<=i
 ·have q2:((ts.length:Int)<=i)=True:=aK h2
  refine tq (eA q1 q2 fN) ?_;intro Nx aB Gx aF
  refine rt aD trivial ?_
  exact⟨_,aG _,aS,_,aH aS,by unfold QP;rw[aA (fun h=>by have:=h.2;omega)]⟩
 have q2:((ts.length:Int)<=i)=False:=aI h2
 have hR:cE ts.length i:=⟨by omega,by omega⟩
 obtain⟨n,rfl⟩:∃n:Nat,i=n:=⟨i.toNat,by omega⟩
 have w3:=wS n (by omega)
 have BT:(kR (ts.take (n+1))).length=n+1:=by rw[EB,dU];omega
 have X8:=uJ (d:=kR (ts.take (n+1))) (i:=n) (by omega)
 have hgd:(kR (ts.take (n+1))).getD n 0=QP ts n:=by
  unfold QP
  rw[aE hR,oT,oT,bI,aG0 (by omega) (by omega)]
 rw[hgd] at X8
 have hx:=bI n
 have cJ:=bM n
 have dX:(List.map iD (kR (ts.take (n+1)))).length=n+1:=by rw[bC,BT]
 have hnl:n<n+1:=by omega
 have aYm:((n:Int)<((n+1:Nat):Int))=True:=aK (by omega)
 refine tq (gQ q1 q2 fN w3) ?_;intro Nx aB Gx aF
 refine(aD9 ts (n+1) _ (by omega) wI oF (aJD hw _)).mono ?_
 rintro d _ ⟨rfl,rfl⟩
 refine tq (kB X8 hx cJ dX hnl aYm) ?_;intro Nx aB Gx aF
 refine rt aD trivial ?_
 exact⟨_,aG _,aS,_,aH aS,rfl⟩
theorem aKk (ts:List dS) (i:Nat) (n:Int) (H:aC) (hi:i<ts.length) (wI:ts.length<=1000000) (oF:∀u∈ts,u.ar.length<=140737488351232) (hw:zJ (ts.take i)):
  bE prog 88 [.seq 5 (ts.map cP),.seq 1 ((kR (ts.take i)).map iD),i64 i,i64 n] H fun d H'=>d=i64 (B3 (ts.take i) n ts[i])/\H=H':=by
 refine bO (K:=fun d=>d=i64 (B3 (ts.take i) n ts[i])) ?_
 have aS:=aG H
 have fN:=lm cP ts
 have hx:=bI i
 have cJ:=bM i
 have cD:(ts.map cP)[i]?=some (cP ts[i]):=by rw[dN,bX hi];rfl
 have RJ:=oF ts[i] (bU hi)
 obtain⟨u,hu⟩:∃u,u=ts[i]:=⟨_,rfl⟩
 rw[<-hu] at cD RJ ⊢
 obtain⟨c,hc⟩:∃c,c=B3 (ts.take i) n u:=⟨_,rfl⟩
 have gG:=hc
 unfold B3 at gG
 rw[<-hc]
 have hps:(ts.take i).length=i:=by rw[dU];omega
 rw[hps] at gG
 obtain⟨uk,um,ur,ue,ua⟩:=u
 simp only at gG RJ
 simp only[cP] at cD
 have tN:=lm iD ua
 refine aQ _ _ func88 rfl rfl ntmps88 results88 (by simp) fun w0 g0 Q aD=>?_
 refine tq (jE cD hx cJ hi fN) ?_;intro Nx aB Gx aF
 intro c9 Z4
 refine aB _ ?_
 refine fZ 9 Z4 ?_
 by_cases h1:uk<0
 ·have q1:(uk<0)=True:=aK h1
  rw[aE (.inl h1)] at gG
  refine tq q1 ?_;intro Nx aB Gx aF
  refine rt aD trivial ?_
  exact⟨_,aG _,aS,_,aH aS,by rw[gG] <;> rfl⟩
 have q1:(uk<0)=False:=aI h1
 by_cases h2:4<uk
 ·have q2:(4<uk)=True:=aK h2
  rw[aE (.inr h2)] at gG
  refine tq (dG q1 q2) ?_;intro Nx aB Gx aF
  refine rt aD trivial ?_
  exact⟨_,aG _,aS,_,aH aS,by rw[gG] <;> rfl⟩
 have q2:(4<uk)=False:=aI h2
 rw[aA (by omega)] at gG
 (have fs:=And.intro q1 q2;(iterate 10 (first|refine aF _ ?_|refine aB _ ?_|refine dW ?_|refine dV ?_|refine fE ?_|refine cU ?_|refine cV ?_|refine cL ?_|refine bP ?_|((first|refine tS fun Nx aB=>?_|refine mS rfl rfl (by kernel_rfl) (by kernel_rfl) fun Gx aF=>?_|refine cH (by kernel_rfl) ?_|refine mJ fun A B wL wM=>?_);refine qK ?_;(first|refine aF _ ?_|refine aB _ ?_|refine wL ?_|refine wM ?_|skip))));(try clear fs))
 obtain⟨dd,hdd⟩:∃dd,dd=kR (ts.take i):=⟨_,rfl⟩
 rw[<-hdd] at gG ⊢
 refine D2 (fun s1=>s1.df=[]/\s1.fr 0=.seq 5 (ts.map cP)/\s1.fr 1=.seq 1 (dd.map iD)/\s1.fr 2=i64 i/\s1.fr 3=i64 n/\s1.fr 9=.rp [i64 uk,.val (.bool um),i64 ur,i64 ue,.seq 1 (ua.map iD)]/\s1.H=H/\¬((uk≠3/\(um=true\/ur≠0\/ue≠0))\/(uk≠4/\0<ua.length))) ?_ ?_
 ·by_cases h3:uk=3
  ·have q3:(uk=3)=True:=aK h3
   have h4:¬uk=4:=by omega
   have q4:(uk=4)=False:=aI h4
   by_cases h5:0<ua.length
   ·have q5:((0:Int)<(ua.length:Int))=True:=aK (by omega)
    rw[aE (.inr ⟨h4,h5⟩)] at gG
    refine tq (gQ q3 q4 q5 tN) ?_;intro Nx aB Gx aF
    refine⟨by simp,?_⟩;refine rt aD trivial ?_;exact⟨_,aG _,aS,_,aH aS,by rw[gG] <;> rfl⟩
   ·have q5:((0:Int)<(ua.length:Int))=False:=aI (by omega)
    refine tq (gQ q3 q4 q5 tN) ?_;intro Nx aB Gx aF
    exact⟨rfl,rfl,rfl,rfl,rfl,rfl,rfl,by omega⟩
  have q3:(uk=3)=False:=aI h3
  by_cases h5:um=true
  ·rw[aE (.inl ⟨h3,.inl h5⟩)] at gG
   subst h5
   refine tq q3 ?_;intro Nx aB Gx aF
   refine⟨by simp,?_⟩;refine rt aD trivial ?_;exact⟨_,aG _,aS,_,aH aS,by rw[gG] <;> rfl⟩
  have h5':um=false:=by simpa using h5
  subst h5'
  by_cases h6:ur=0
  case neg=>
   have q6:(ur=0)=False:=aI h6
   rw[aE (.inl ⟨h3,.inr (.inl h6)⟩)] at gG
   refine tq (dG q3 q6) ?_;intro Nx aB Gx aF
   refine⟨by simp,?_⟩;refine rt aD trivial ?_;exact⟨_,aG _,aS,_,aH aS,by rw[gG] <;> rfl⟩
  have q6:(ur=0)=True:=aK h6
  by_cases h7:ue=0
  case neg=>
   have q7:(ue=0)=False:=aI h7
   rw[aE (.inl ⟨h3,.inr (.inr h7)⟩)] at gG
   refine tq (eA q3 q6 q7) ?_;intro Nx aB Gx aF
   refine⟨by simp,?_⟩;refine rt aD trivial ?_;exact⟨_,aG _,aS,_,aH aS,by rw[gG] <;> rfl⟩
  have q7:(ue=0)=True:=aK h7
  by_cases h4:uk=4
  ·have q4:(uk=4)=True:=aK h4
   refine tq (gQ q3 q4 q6 q7) ?_;intro Nx aB Gx aF
   exact⟨rfl,rfl,rfl,rfl,rfl,rfl,rfl,by rintro(⟨_,h|h|h⟩|⟨h,_⟩) <;> first|exact h h6|exact h h7|exact h h4|cases h⟩
  have q4:(uk=4)=False:=aI h4
  by_cases h5:0<ua.length
  ·have q5:((0:Int)<(ua.length:Int))=True:=aK (by omega)
   rw[aE (.inr ⟨h4,h5⟩)] at gG
   refine tq (kB q3 q4 q5 q6 q7 tN) ?_;intro Nx aB Gx aF
   refine⟨by simp,?_⟩;refine rt aD trivial ?_;exact⟨_,aG _,aS,_,aH aS,by rw[gG] <;> rfl⟩
  ·have q5:((0:Int)<(ua.length:Int))=False:=aI (by omega)
   refine tq (kB q3 q4 q5 q6 q7 tN) ?_;intro Nx aB Gx aF
   exact⟨rfl,rfl,rfl,rfl,rfl,rfl,rfl,by rintro(⟨_,h|h|h⟩|⟨_,h⟩) <;> first|exact h h6|exact h h7|exact h5 h|cases h⟩
 rintro s1 ⟨pP,g0,g1,g2,g3,g9,uK,hp1⟩
 rw[aA hp1] at gG
 have kU:H.le s1.H:=by rw[uK];exact aS
 (have fs:=trivial;(iterate 3 (first|refine aF _ ?_|refine aB _ ?_|refine dW ?_|refine dV ?_|refine fE ?_|refine cU ?_|refine cV ?_|refine cL ?_|refine bP ?_|((first|refine tS fun Nx aB=>?_|refine mS rfl rfl (by kernel_rfl) (by kernel_rfl) fun Gx aF=>?_|refine cH (by kernel_rfl) ?_|refine mJ fun A B wL wM=>?_);refine qK ?_;(first|refine aF _ ?_|refine aB _ ?_|refine wL ?_|refine wM ?_|skip))));(try clear fs))
 have hdl:dd.length=i:=by rw[hdd,EB,hps]
 refine D2 (fun s2=>s2.df=[]/\s2.fr 0=.seq 5 (ts.map cP)/\s2.fr 1=.seq 1 (dd.map iD)/\s2.fr 2=i64 i/\s2.fr 3=i64 n/\s2.fr 9=.rp [i64 uk,.val (.bool um),i64 ur,i64 ue,.seq 1 (ua.map iD)]/\s2.H=H/\s2.fr 10=i64 (if uk=3 then dd.getD ue.toNat 0 else 0)/\¬(uk=3/\(ur<0\/n<=ur\/ue<0\/(i:Int)<=ue))) ?_ ?_
 ·by_cases h3:uk=3
  case neg=>
   have q3:(uk=3)=False:=aI h3
   rw[aA h3]
   refine tq (dG g9 q3) ?_;intro Nx aB Gx aF
   exact⟨pP,g0,g1,g2,g3,g9,uK,rfl,fun h=>h3 h.1⟩
  have q3:(uk=3)=True:=aK h3
  rw[aE h3]
  by_cases h4:ur<0
  ·have q4:(ur<0)=True:=aK h4
   rw[aE ⟨h3,.inl h4⟩] at gG
   refine tq (eA g9 q3 q4) ?_;intro Nx aB Gx aF
   refine⟨by simp,?_⟩;refine rt aD pP ?_;exact⟨_,aG _,kU,_,aH kU,by rw[gG] <;> rfl⟩
  have q4:(ur<0)=False:=aI h4
  by_cases h5:n<=ur
  ·have q5:(n<=ur)=True:=aK h5
   rw[aE ⟨h3,.inr (.inl h5)⟩] at gG
   refine tq (jE g3 g9 q3 q4 q5) ?_;intro Nx aB Gx aF
   refine⟨by simp,?_⟩;refine rt aD pP ?_;exact⟨_,aG _,kU,_,aH kU,by rw[gG] <;> rfl⟩
  have q5:(n<=ur)=False:=aI h5
  by_cases h6:ue<0
  ·have q6:(ue<0)=True:=aK h6
   rw[aE ⟨h3,.inr (.inr (.inl h6))⟩] at gG
   refine tq (kB g3 g9 q3 q4 q5 q6) ?_;intro Nx aB Gx aF
   refine⟨by simp,?_⟩;refine rt aD pP ?_;exact⟨_,aG _,kU,_,aH kU,by rw[gG] <;> rfl⟩
  have q6:(ue<0)=False:=aI h6
  by_cases h7:(i:Int)<=ue
  ·have q7:((i:Int)<=ue)=True:=aK h7
   rw[aE ⟨h3,.inr (.inr (.inr h7))⟩] at gG
   refine tq (wG g2 g3 g9 q3 q4 q5 q6 q7) ?_;intro Nx aB Gx aF
   refine⟨by simp,?_⟩;refine rt aD pP ?_;exact⟨_,aG _,kU,_,aH kU,by rw[gG] <;> rfl⟩
  have q7:((i:Int)<=ue)=False:=aI h7
  have X8:=uJ (d:=dd) (i:=ue.toNat) (by omega)
  have h0u:0<=ue:=by omega
  have hdm:=lm iD dd
  have K7:ue.toNat<dd.length:=by omega
  have aOU:ue<(dd.length:Int):=by omega
  refine tq (DH g1 g2 g3 g9 q3 q4 q5 q6 q7 X8 h0u hdm K7 aOU) ?_;intro Nx aB Gx aF
  exact⟨pP,g0,g1,g2,g3,g9,uK,rfl,by omega⟩
 rintro s2 ⟨qX,f0,f1,f2,f3,f9,mV,f10,hp2⟩
 rw[aA hp2] at gG
 have hkm:vG dd ⟨uk,um,ur,ue,ua⟩=ua.foldl (vR dd) (if uk=3 then dd.getD ue.toNat 0 else 0):=rfl
 have hbd:=OR (ts.take i)
 rw[hps,<-hdd] at hbd
 have pB:=O3 (b:=i) (fun x hx=>(hbd x hx).2) (by omega) ⟨uk,um,ur,ue,ua⟩
 have jG:=O2 (fun x hx=>by have:=hbd x hx;omega) ⟨uk,um,ur,ue,ua⟩
 obtain⟨km,aOP⟩:∃km,km=vG dd ⟨uk,um,ur,ue,ua⟩:=⟨_,rfl⟩
 rw[<-aOP] at pB jG hkm gG
 refine tq trivial ?_;intro Nx aB Gx aF
 refine aZ ua.length (fun j s=>s.df=[]/\s.fr 0=.seq 5 (ts.map cP)/\s.fr 1=.seq 1 (dd.map iD)/\s.fr 2=i64 i/\s.fr 9=.rp [i64 uk,.val (.bool um),i64 ur,i64 ue,.seq 1 (ua.map iD)]/\s.H=H/\s.fr 11=i64 j/\s.fr 10=i64 ((ua.take j).foldl (vR dd) (if uk=3 then dd.getD ue.toNat 0 else 0))/\∀m (h:m<ua.length),m<j->¬(ua[m]<0\/(i:Int)<=ua[m])) ⟨qX,f0,f1,f2,f9,mV,rfl,f10,fun m h hm=>by omega⟩ ?_
 rintro j s3 hj ⟨TZ,k0,k1,k2,k9,y8,k11,k10,fF⟩
 have qY:H.le s3.H:=by rw[y8];exact aS
 have hjx:=bI j
 have xB:=bM j
 by_cases fQ:j<ua.length
 case pos=>
  have p1:=lT j ua.length (by omega)
  have qR:=cO fQ
  have w4:=wS j (by omega)
  have oJ:(ua.take (j+1)).foldl (vR dd) (if uk=3 then dd.getD ue.toNat 0 else 0)=max ((ua.take j).foldl (vR dd) (if uk=3 then dd.getD ue.toNat 0 else 0)) (dd.getD ua[j].toNat 0):=by
   rw[dH fQ,zP];rfl
  have HO:ua[j]∈ua:=bU fQ
  obtain⟨f,hfe⟩:∃f,f=ua[j]:=⟨_,rfl⟩
  rw[<-hfe] at qR oJ HO
  by_cases h4:f<0
  ·have q4:(f<0)=True:=aK h4
   rw[aE ⟨f,HO,.inl h4⟩] at gG
   refine tq (BR k9 k11 p1 qR hjx xB fQ tN q4) ?_;intro Nx aB Gx aF
   refine rt aD TZ ?_
   exact⟨_,aG _,qY,_,aH qY,by rw[gG] <;> rfl⟩
  have q4:(f<0)=False:=aI h4
  by_cases h5:(i:Int)<=f
  ·have q5:((i:Int)<=f)=True:=aK h5
   rw[aE ⟨f,HO,.inr h5⟩] at gG
   refine tq (rQ k2 k9 k11 p1 qR hjx xB fQ tN q4 q5) ?_;intro Nx aB Gx aF
   refine rt aD TZ ?_
   exact⟨_,aG _,qY,_,aH qY,by rw[gG] <;> rfl⟩
  have q5:((i:Int)<=f)=False:=aI h5
  have X8:=uJ (d:=dd) (i:=f.toNat) (by omega)
  have h0u:0<=f:=by omega
  have hdm:=lm iD dd
  have K7:f.toNat<dd.length:=by omega
  have aOU:f<(dd.length:Int):=by omega
  refine tq (aPp k1 k2 k9 k10 k11 p1 qR hjx xB fQ tN q4 q5 X8 h0u hdm K7 aOU w4) ?_;intro Nx aB Gx aF
  refine⟨fQ,TZ,k0,k1,k2,k9,y8,rfl,by rw[oJ] <;> rfl,fun m hm hmj=>?_⟩
  by_cases hme:m=j
  ·subst hme;rw[<-hfe];omega
  ·exact fF m hm (by omega)
 have p1:=lF j ua.length (by omega)
 rw[cW (by omega),<-hkm] at k10
 have VJ:¬∃f∈ua,f<0\/(i:Int)<=f:=by
  rintro⟨f,hf,hb⟩
  obtain⟨m,hm,rfl⟩:=sA hf
  exact fF m hm (by omega) hb
 rw[aA VJ] at gG
 have w5:IntKind.i64.wrap (km+1)=km+1:=bF (by omega)
 (have fs:=And.intro k9 (And.intro k10 (And.intro k11 (And.intro p1 (And.intro tN w5))));(iterate 6 (first|refine aF _ ?_|refine aB _ ?_|refine dW ?_|refine dV ?_|refine fE ?_|refine cU ?_|refine cV ?_|refine cL ?_|refine bP ?_|((first|refine tS fun Nx aB=>?_|refine mS rfl rfl (by kernel_rfl) (by kernel_rfl) fun Gx aF=>?_|refine cH (by kernel_rfl) ?_|refine mJ fun A B wL wM=>?_);refine qK ?_;(first|refine aF _ ?_|refine aB _ ?_|refine wL ?_|refine wM ?_|skip))));(try clear fs))
 refine D2 (fun s4=>s4.df=[]/\s4.fr 0=.seq 5 (ts.map cP)/\s4.fr 2=i64 i/\s4.fr 9=.rp [i64 uk,.val (.bool um),i64 ur,i64 ue,.seq 1 (ua.map iD)]/\s4.H=H/\s4.fr 10=i64 km/\¬(uk=4/\(ua.length=0\/65535<ua.length))) ?_ ?_
 ·by_cases h4:uk=4
  case neg=>
   have q4:(uk=4)=False:=aI h4
   refine tq (dG k9 q4) ?_;intro Nx aB Gx aF
   exact⟨TZ,k0,k2,k9,y8,k10,fun h=>h4 h.1⟩
  have q4:(uk=4)=True:=aK h4
  by_cases h5:ua.length=0
  ·have q5:((ua.length:Int)=0)=True:=aK (by omega)
   rw[aE ⟨h4,.inl h5⟩] at gG
   refine tq (gQ k9 q4 q5 tN) ?_;intro Nx aB Gx aF
   refine⟨by simp,?_⟩;refine rt aD TZ ?_;exact⟨_,aG _,qY,_,aH qY,by rw[gG] <;> rfl⟩
  have q5:((ua.length:Int)=0)=False:=aI (by omega)
  by_cases h6:65535<ua.length
  ·have q6:((65535:Int)<(ua.length:Int))=True:=aK (by omega)
   rw[aE ⟨h4,.inr h6⟩] at gG
   refine tq (jE k9 q4 q5 q6 tN) ?_;intro Nx aB Gx aF
   refine⟨by simp,?_⟩;refine rt aD TZ ?_;exact⟨_,aG _,qY,_,aH qY,by rw[gG] <;> rfl⟩
  have q6:((65535:Int)<(ua.length:Int))=False:=aI (by omega)
  refine tq (jE k9 q4 q5 q6 tN) ?_;intro Nx aB Gx aF
  exact⟨TZ,k0,k2,k9,y8,k10,by omega⟩
 rintro s4 ⟨aOB,m0,m2,m9,hH4,m10,hp4⟩
 rw[aA hp4] at gG
 have nT:H.le s4.H:=by rw[hH4];exact aS
 by_cases h6:32<km+1
 ·have q6:(32<km+1)=True:=aK h6
  rw[aE h6] at gG
  refine tq (eA m10 w5 q6) ?_;intro Nx aB Gx aF
  refine rt aD aOB ?_
  exact⟨_,aG _,nT,_,aH nT,by rw[gG] <;> rfl⟩
 have q6:(32<km+1)=False:=aI h6
 rw[aA h6] at gG
 refine tq (eA m10 w5 q6) ?_;intro Nx aB Gx aF
 have mM:=aAW (t:=⟨uk,um,ur,ue,ua⟩) (l:=ts.take i)
 have eP:eF prog 139 [.seq 5 ((ts.take i).map cP),.agg [i64 uk,.val (.bool um),i64 ur,i64 ue,.seq 1 (ua.map iD)]] s4.H fun d A=>A=aC.none/\d=i64 (xU ⟨uk,um,ur,ue,ua⟩ (ts.take i) 0):=cF fun gI gX=>aKo (ts.take i) ⟨uk,um,ur,ue,ua⟩ gI (by rw[hps];omega) (fun u hu=>oF u (zN hu))
 obtain⟨r,hr⟩:∃r,r=xU ⟨uk,um,ur,ue,ua⟩ (ts.take i) 0:=⟨_,rfl⟩
 rw[<-hr] at eP mM
 rw[qB] at eP
 have cC:i<=ts.length:=by omega
 have DK:((i:Int)<=(ts.length:Int))=True:=aK (by omega)
 simp only[i64] at eP
 refine dE (fun _ _ d A=>A=.none/\d=.val (.int .i64 r)) fun Nx aB=>?_;refine dst (wG m0 m2 m9 fN hx cJ cC DK) ?_;intro Nx aB Gx aF
 refine⟨eP,?_⟩
 (first|refine aF _ ?_|refine aB _ ?_|skip)
 by_cases hm:(⟨uk,um,ur,ue,ua⟩:dS)∈ts.take i
 ·have q7:(0<=r)=True:=aK (mM.2 hm)
  rw[aE hm] at gG
  refine tq q7 ?_;intro Nx aB Gx aF
  refine rt aD aOB ?_
  exact⟨_,aG _,nT,_,aH nT,by rw[gG] <;> rfl⟩
 ·have q7:(0<=r)=False:=aI fun h=>hm (mM.1 h)
  rw[aA hm] at gG
  refine tq q7 ?_;intro Nx aB Gx aF
  refine rt aD aOB ?_
  exact⟨_,aG _,nT,_,aH nT,by rw[gG] <;> rfl⟩
theorem aH1 (ts:List dS) (n:Int) (H:aC) (wI:ts.length<=140737488351232) (oF:∀u∈ts,u.ar.length<=140737488351232):
  bE prog 43 [.seq 5 (ts.map cP),i64 n] H fun d H'=>d=i64 (B4 ts n)/\H=H':=by
 refine bO (K:=fun d=>d=i64 (B4 ts n)) ?_
 have aS:=aG H
 have fN:=lm cP ts
 have BC:B4 ts n=if 65535<ts.length then 15 else zX n [] ts:=rfl
 refine aQ _ _ func43 rfl rfl ntmps43 results43 (by simp) fun w0 g0 Q aD=>?_
 by_cases h1:65535<ts.length
 ·have q1:((65535:Int)<(ts.length:Int))=True:=aK (by omega)
  rw[aE h1] at BC
  refine tq (dG fN q1) ?_;intro Nx aB Gx aF
  refine rt aD trivial ?_
  exact⟨_,aG _,aS,_,aH aS,by rw[BC] <;> rfl⟩
 have q1:((65535:Int)<(ts.length:Int))=False:=aI (by omega)
 rw[aA h1] at BC
 refine tq (dG fN q1) ?_;intro Nx aB Gx aF
 refine aND 5 (.seq 1 []) (fun w v hv=>fR _ _ _ hv) ?_
 refine aZ ts.length (fun i s=>s.df=[]/\s.fr 0=.seq 5 (ts.map cP)/\s.fr 1=i64 n/\s.fr 5=.seq 1 ((kR (ts.take i)).map iD)/\s.fr 6=i64 i/\s.H=H/\zX n [] (ts.take i)=0) ⟨rfl,rfl,rfl,rfl,rfl,rfl,rfl⟩ ?_
 rintro i s hi ⟨aT,f0,f1,f5,f6,hH,fI⟩
 have aY:H.le s.H:=by rw[hH];exact aS
 by_cases aV:i<ts.length
 case neg=>
  have q2:=lF i ts.length (by omega)
  rw[cW (by omega)] at fI
  refine tq (gQ f0 f6 fN q2) ?_;intro Nx aB Gx aF
  refine rt aD aT ?_
  exact⟨_,aG _,aY,_,aH aY,by rw[BC,fI] <;> rfl⟩
 have q2:=lT i ts.length (by omega)
 have w3:=wS i (by omega)
 have hwf:zJ (ts.take i):=KJ (n:=n) fun m hm=>by simpa using OQ.1 fI m hm
 have qT:=LI (t:=ts[i]) fI
 rw[<-dH aV,gZ] at qT
 refine tq (kB f0 f1 f5 f6 fN q2) ?_;intro Nx aB Gx aF
 refine(aKk ts i n _ aV (by omega) oF hwf).mono ?_
 rintro d _ ⟨rfl,rfl⟩
 by_cases hc:B3 (ts.take i) n ts[i]=0
 case neg=>
  have q3:((B3 (ts.take i) n ts[i]:Int)=0)=False:=aI (by omega)
  have N3:=QK (us:=ts.drop (i+1)) (by rw[qT];exact hc)
  rw[uQ] at N3
  refine tq q3 ?_;intro Nx aB Gx aF
  refine rt aD aT ?_
  exact⟨_,aG _,aY,_,aH aY,by rw[BC,N3,qT] <;> rfl⟩
 have aZJ:zJ (ts.take (i+1)):=KJ (n:=n) fun m hm=>by simpa using OQ.1 (qT.trans hc) m hm
 rw[hc]
 refine tq (eA f0 f6 w3) ?_;intro Nx aB Gx aF
 refine(aD9 ts (i+1) _ (by omega) (by omega) oF aZJ).mono ?_
 rintro d _ ⟨rfl,rfl⟩
 refine tq (dG f6 w3) ?_;intro Nx aB Gx aF
 exact⟨aV,aT,f0,f1,rfl,rfl,hH,qT.trans hc⟩
theorem aR7 (a b:dS) (H:aC) (rJ:a.ar.length<=140737488351232):bE prog 185 [.agg (cP a),.agg (cP b)] H fun d H'=>d=.val (.bool (decide (a=b)))/\H=H':=by
 refine bO (K:=fun d=>d=.val (.bool (decide (a=b)))) ?_
 obtain⟨ak,am,ar,ae,aa⟩:=a
 obtain⟨bk,bm,br,be,ba⟩:=b
 have GJ:=aET (a:=⟨ak,am,ar,ae,aa⟩) (b:=⟨bk,bm,br,be,ba⟩)
 simp only at GJ rJ
 simp only[cP]
 have aS:=aG H
 refine aQ _ _ func185 rfl rfl ntmps185 results185 (by simp) fun w0 g0 Q aD=>?_
 refine tq trivial ?_;intro Nx aB Gx aF
 intro c2 lH c3 j5
 have fM:c2≠c3:=nZ (aO _ _ _) j5
 have N6:H c3=none:=(bY.1 j5).2
 refine aB _ ?_
 refine cA 2 rfl ((aN fM).trans (aO _ _ _)) rfl ?_
 refine cA 3 rfl ((bS fM.symm).trans (aO _ _ _)) rfl ?_
 refine eV H (fun x z hz=>?_) ?_
 ·have e1:x≠c2:=fun e=>by rw[e,lH] at hz;cases hz
  have e2:x≠c3:=fun e=>by rw[e,N6] at hz;cases hz
  show((((H.bH c2 _).bH c3 _).del c2).del c3) x=_
  rw[bS e2,bS e1,aN e2,aN e1]
  exact hz
 simp only[St.jH,List.drop]
 by_cases g1:ak=bk
 case neg=>
  have q1:(ak=bk)=False:=aI g1
  have fG:decide ((⟨ak,am,ar,ae,aa⟩:dS)=⟨bk,bm,br,be,ba⟩)=false:=bB fun h=>g1 (GJ.1 h).1
  refine tq q1 ?_;intro Nx aB Gx aF;refine rt aD trivial ?_;exact⟨_,aG _,aS,_,aH aS,by rw[fG]⟩
 have q1:(ak=bk)=True:=aK g1
 by_cases g2:am=bm
 case neg=>
  have q2:(am=bm)=False:=aI g2
  have fG:decide ((⟨ak,am,ar,ae,aa⟩:dS)=⟨bk,bm,br,be,ba⟩)=false:=bB fun h=>g2 (GJ.1 h).2.1
  refine tq (dG q1 q2) ?_;intro Nx aB Gx aF;refine rt aD trivial ?_;exact⟨_,aG _,aS,_,aH aS,by rw[fG]⟩
 have q2:(am=bm)=True:=aK g2
 by_cases g3:ar=br
 case neg=>
  have q3:(ar=br)=False:=aI g3
  have fG:decide ((⟨ak,am,ar,ae,aa⟩:dS)=⟨bk,bm,br,be,ba⟩)=false:=bB fun h=>g3 (GJ.1 h).2.2.1
  refine tq (eA q1 q2 q3) ?_;intro Nx aB Gx aF;refine rt aD trivial ?_;exact⟨_,aG _,aS,_,aH aS,by rw[fG]⟩
 have q3:(ar=br)=True:=aK g3
 by_cases g4:ae=be
 case neg=>
  have q4:(ae=be)=False:=aI g4
  have fG:decide ((⟨ak,am,ar,ae,aa⟩:dS)=⟨bk,bm,br,be,ba⟩)=false:=bB fun h=>g4 (GJ.1 h).2.2.2.1
  refine tq (gQ q1 q2 q3 q4) ?_;intro Nx aB Gx aF;refine rt aD trivial ?_;exact⟨_,aG _,aS,_,aH aS,by rw[fG]⟩
 have q4:(ae=be)=True:=aK g4
 have fG:decide ((⟨ak,am,ar,ae,aa⟩:dS)=⟨bk,bm,br,be,ba⟩)=decide (aa=ba):=by
  have:((⟨ak,am,ar,ae,aa⟩:dS)=⟨bk,bm,br,be,ba⟩)=(aa=ba):=propext ⟨fun h=>(GJ.1 h).2.2.2.2,fun h=>GJ.2 ⟨g1,g2,g3,g4,h⟩⟩
  simp only[this]
 refine tq (gQ q1 q2 q3 q4) ?_;intro Nx aB Gx aF
 refine(aEu H aa ba rJ).mono ?_
 rintro d _ ⟨rfl,rfl⟩
 refine tq trivial ?_;intro Nx aB Gx aF
 refine rt aD trivial ?_
 exact⟨_,aG _,aS,_,aH aS,by rw[fG]⟩
theorem aNj (x t:dS) (H:aC) (rJ:x.ar.length<=140737488351232):bE prog 184 [.agg (cP x),.rp (cP t)] H fun d H'=>d=.val (.bool (decide (x=t)))/\H=H':=by
 refine bO (K:=fun d=>d=.val (.bool (decide (x=t)))) ?_
 have hq:=aR7 x t H rJ
 obtain⟨xk,xm,xr,xe,xa⟩:=x
 obtain⟨tk,tm,tr,te,ta⟩:=t
 simp only[cP] at hq ⊢
 have aS:=aG H
 refine aQ _ _ func184 rfl rfl ntmps184 results184 (by simp) fun w0 g0 Q aD=>?_
 refine tq trivial ?_;intro Nx aB Gx aF
 intro c2 lH
 refine aB _ ?_
 refine fZ 2 lH ?_
 refine tq trivial ?_;intro Nx aB Gx aF
 refine hq.mono ?_
 rintro d _ ⟨rfl,rfl⟩
 refine tq trivial ?_;intro Nx aB Gx aF
 refine rt aD trivial ?_
 exact⟨_,aG _,aS,_,aH aS,rfl⟩
theorem aO1 (ts:List dS) (t:dS) (H:aC) (wI:ts.length<=140737488351232) (oF:∀u∈ts,u.ar.length<=140737488351232):bE prog 183 [.seq 5 (ts.map cP),.fn 184 [.rp (cP t)]] H fun d H'=>d=i64 (xU t ts 0)/\H=H':=by
 refine bO (K:=fun d=>d=i64 (xU t ts 0)) ?_
 have fN:=lm cP ts
 have aS:=aG H
 refine aQ _ _ func183 rfl rfl ntmps183 results183 (by simp) fun w0 g0 Q aD=>?_
 refine tq fN ?_;intro Nx aB Gx aF
 refine aZ ts.length (fun i s=>s.df=[]/\s.fr 0=.seq 5 (ts.map cP)/\s.fr 1=.fn 184 [.rp (cP t)]/\s.fr 7=i64 ts.length/\s.fr 8=i64 i/\s.H=H/\xU t ts 0=xU t (ts.drop i) i) ⟨rfl,rfl,rfl,rfl,rfl,rfl,rfl⟩ ?_
 rintro i s hi ⟨aT,f0,f1,f7,f8,hH,hf⟩
 have hx:=bI i
 have cJ:=bM i
 have aY:H.le s.H:=by rw[hH];exact aG _
 by_cases aV:i<ts.length
 case neg=>
  have q6:=lF i ts.length (by omega)
  rw[eT (by omega)] at hf
  refine tq (eA f7 f8 q6) ?_;intro Nx aB Gx aF
  refine rt aD aT ?_
  exact⟨_,aG _,aY,_,aH aY,by rw[hf] <;> rfl⟩
 have q6:=lT i ts.length (by omega)
 have w3:=wS i (by omega)
 have RJ:=oF ts[i] (bU aV)
 have cD:(ts.map cP)[i]?=some (cP ts[i]):=by rw[dN,bX aV];rfl
 rw[eH aV,xU] at hf
 obtain⟨u,hu⟩:∃u,u=ts[i]:=⟨_,rfl⟩
 rw[<-hu] at cD hf RJ
 have hq:=aNj u t s.H RJ
 obtain⟨uk,um,ur,ue,ua⟩:=u
 obtain⟨tk,tm,tr,te,ta⟩:=t
 simp only[cP] at cD f1 hq
 refine tq (nN f0 f1 f7 f8 fN q6 cD hx cJ aV) ?_;intro Nx aB Gx aF
 refine hq.mono ?_
 rintro d _ ⟨rfl,rfl⟩
 by_cases he:(⟨uk,um,ur,ue,ua⟩:dS)=⟨tk,tm,tr,te,ta⟩
 ·rw[aE he] at hf
  rw[bG he]
  refine tq f8 ?_;intro Nx aB Gx aF
  refine rt aD aT ?_
  exact⟨_,aG _,aY,_,aH aY,by rw[hf] <;> rfl⟩
 ·rw[aA he] at hf
  rw[bB he]
  refine tq (dG f8 w3) ?_;intro Nx aB Gx aF
  exact⟨aV,aT,f0,f1,f7,rfl,hH,hf⟩
theorem aNh (ts:List dS) (t:dS) (H:aC) (wI:ts.length<=140737488351232) (oF:∀u∈ts,u.ar.length<=140737488351232):bE prog 149 [.seq 5 (ts.map cP),.agg (cP t)] H fun d H'=>d=.pG [i64 (max (xU t ts 0) 0),.val (.bool (decide (t∈ts)))]/\H=H':=by
 refine bO (K:=fun d=>d=.pG [i64 (max (xU t ts 0) 0),.val (.bool (decide (t∈ts)))]) ?_
 have hq:=aO1 ts t H wI oF
 have mM:=aAW (t:=t) (l:=ts)
 obtain⟨r,hr⟩:∃r,r=xU t ts 0:=⟨_,rfl⟩
 rw[<-hr] at hq mM ⊢
 obtain⟨tk,tm,tr,te,ta⟩:=t
 simp only[cP] at hq ⊢
 have aS:=aG H
 refine aQ _ _ func149 rfl rfl ntmps149 results149 (by simp) fun w0 g0 Q aD=>?_
 refine tq trivial ?_;intro Nx aB Gx aF
 intro c2 lH
 refine aB _ ?_
 refine fZ 3 lH ?_
 refine tq trivial ?_;intro Nx aB Gx aF
 refine hq.mono ?_
 rintro d _ ⟨rfl,rfl⟩
 by_cases h0:0<=r
 ·have q0:(0<=r)=True:=aK h0
  refine tq q0 ?_;intro Nx aB Gx aF
  refine rt aD trivial ?_
  exact⟨_,aG _,aS,_,aH aS,by rw[bG (mM.1 h0)]⟩
 ·have q0:(0<=r)=False:=aI h0
  refine tq q0 ?_;intro Nx aB Gx aF
  refine rt aD trivial ?_
  exact⟨_,aG _,aS,_,aH aS,by rw[bB fun h=>h0 (mM.2 h)]⟩
theorem aLZ (t:dS) (H:aC):bE prog 162 [.agg (cP t)] H fun d H'=>d=.seq 1 ((tX t).map iD)/\H=H':=by
 refine bO (K:=fun d=>d=.seq 1 ((tX t).map iD)) ?_
 obtain⟨tk,tm,tr,te,ta⟩:=t
 simp only[cP,tX]
 have aS:=aG H
 refine aQ _ _ func162 rfl rfl ntmps162 results162 (by simp) fun w0 g0 Q aD=>?_
 refine tq trivial ?_;intro Nx aB Gx aF
 intro c2 lH
 refine aB _ ?_
 refine fZ 1 lH ?_
 by_cases h3:tk=3
 ·have q3:(tk=3)=True:=aK h3
  refine tq q3 ?_;intro Nx aB Gx aF
  refine rt aD trivial ?_
  exact⟨_,aG _,aS,_,aH aS,by rw[aE h3] <;> rfl⟩
 ·have q3:(tk=3)=False:=aI h3
  refine tq q3 ?_;intro Nx aB Gx aF
  refine rt aD trivial ?_
  exact⟨_,aG _,aS,_,aH aS,by rw[aA h3]⟩
theorem aPE (ts:List dS) (bm bf:Nat) (hw:zJ ts) (wI:ts.length<=1000000) (oF:∀t∈ts,t.ar.length<=140737488351232) (z8:bm≠bf):
  ∀(kk:Nat) (a:Int) (S:List Int) (H:aC),cE ts.length a->a<kk->H bf=some (.row 233 0 1 [[.fn 161 [.rp [.val (.map (some bm))],.rp [.seq 5 (ts.map cP)],.ep bf 0 1 0 0]]])->H bm=some (.map (SM S))->S.Nodup->(∀x∈S,cE ts.length x)->(∀k∈S,k<=a->∀b,TO tX ts k b->b∈S)->
   bE prog 161 [i64 a,.rp [.val (.map (some bm))],.rp [.seq 5 (ts.map cP)],.ep bf 0 1 0 0] H fun _ H'=>∃S',H'=H.bH bm (.map (SM S'))/\S'.Nodup/\(∀x∈S',cE ts.length x)/\∀x,x∈S'↔x∈S\/TO tX ts a x:=by
 intro kk
 induction kk using Nat.strongRecOn with
 |ind kk ih=>
  intro a S H ha hak hHf JJ hSn hSi hSc
  have fN:=lm cP ts
  have Q9:HC a:=by unfold cE at ha;unfold HC;omega
  have zA:=aMY (by omega) hSi Q9
  refine aQ _ _ func161 rfl rfl ntmps161 results161 (by simp) fun w0 g0 Q aD=>?_
  by_cases iI:a∈S
  ·have hmg:=aFs iI
   refine tq (dG JJ hmg) ?_;intro Nx aB Gx aF
   refine⟨zA,?_⟩
   refine tq trivial ?_;intro Nx aB Gx aF
   refine rt aD trivial ?_
   exact⟨_,aG _,S,(tD JJ).symm,hSn,hSi,fun x=>⟨.inl,fun h=>h.elim id fun h=>hSc a iI (rO _) x h⟩⟩
  have hmg:=aBa iI
  have tU:=WN iI
  refine tq (dG JJ hmg) ?_;intro Nx aB Gx aF
  refine⟨zA,?_⟩
  have EK:=mD ha
  have aCB:=fun b=>TO.iff (par:=tX) (ts:=ts) (a:=a) (b:=b)
  have hdn:=Dn.A hw a ha
  have JK:(cZ ts a).ar.length<=140737488351232:=oF _ (wV ha)
  have zB:(tX (cZ ts a)).length<=140737488351232:=by unfold tX;split <;> first|exact JK|simp
  have TE:=aLZ (cZ ts a)
  obtain⟨t,ht⟩:∃t,t=cZ ts a:=⟨_,rfl⟩
  rw[<-ht] at EK hdn JK TE zB
  simp only[<-ht] at aCB
  obtain⟨pa,hpa⟩:∃pa,pa=tX t:=⟨_,rfl⟩
  rw[<-hpa] at hdn TE zB
  simp only[<-hpa] at aCB
  obtain⟨tk,tm,tr,te,ta⟩:=t
  simp only[cP] at EK TE
  have h0a:0<=a:=ha.1
  have rJ:a.toNat<ts.length:=by unfold cE at ha;omega
  have BA:a<(ts.length:Int):=ha.2
  have aQp:=lm iD pa
  refine tq (dG JJ hmg) ?_;intro Nx aB Gx aF
  refine⟨zA,?_⟩
  rw[tU]
  refine tq (jE EK h0a rJ BA fN) ?_;intro Nx aB Gx aF
  refine(TE _).mono ?_
  rintro d _ ⟨rfl,rfl⟩
  refine tq aQp ?_;intro Nx aB Gx aF
  refine aZ pa.length (fun j s=>s.df=[]/\s.fr 0=i64 a/\s.fr 1=.rp [.val (.map (some bm))]/\s.fr 2=.rp [.seq 5 (ts.map cP)]/\s.fr 3=.ep bf 0 1 0 0/\s.fr 16=.seq 1 (pa.map iD)/\s.fr 17=i64 pa.length/\s.fr 18=i64 j/\∃S',s.H=H.bH bm (.map (SM S'))/\S'.Nodup/\(∀x∈S',cE ts.length x)/\∀x,x∈S'↔x∈S\/x=a\/∃p∈pa.take j,TO tX ts p x) ⟨rfl,rfl,rfl,rfl,rfl,rfl,rfl,rfl,S++[a],rfl,?_,?_,?_⟩ ?_
  ·rw[yI]
   exact⟨hSn,by simp,fun x hx y hy e=>by rw[cR] at hy;subst hy;subst e;exact iI hx⟩
  ·intro x hx
   rcases bV.1 hx with hx|hx
   ·exact hSi x hx
   ·rw[cR] at hx;rw[hx];exact ha
  ·intro x
   rw[bV,cR]
   constructor
   ·rintro(h|h)
    ·exact .inl h
    ·exact .inr (.inl h)
   ·rintro(h|h|⟨p,hp,_⟩)
    ·exact .inl h
    ·exact .inr h
    ·simp at hp
  rintro j s hj ⟨aT,f0,f1,f2,f3,f16,f17,f18,S2,mV,hn2,EM,CB⟩
  have aGq:s.H bm=some (.map (SM S2)):=by rw[mV];exact aO _ _ _
  have aA4:s.H bf=some (.row 233 0 1 [[.fn 161 [.rp [.val (.map (some bm))],.rp [.seq 5 (ts.map cP)],.ep bf 0 1 0 0]]]):=by rw[mV];exact(aN z8.symm).trans hHf
  have hx:=bI j
  have cJ:=bM j
  by_cases fQ:j<pa.length
  case neg=>
   have q1:=lF j pa.length (by omega)
   rw[cW (by omega)] at CB
   refine tq (eA f17 f18 q1) ?_;intro Nx aB Gx aF
   refine rt aD aT ?_
   refine⟨_,aG _,S2,mV,hn2,EM,fun x=>?_⟩
   rw[CB x,aCB x]
   constructor
   ·rintro(h|h|h)
    ·exact .inl h
    ·exact .inr (.inl h.symm)
    ·exact .inr (.inr h)
   ·rintro(h|h|h)
    ·exact .inl h
    ·exact .inr (.inl h.symm)
    ·exact .inr (.inr h)
  have q1:=lT j pa.length (by omega)
  have w3:=wS j (by omega)
  have cD:=cO fQ
  have hdj:=hdn pa[j] (bU fQ)
  have pY:=dH fQ
  obtain⟨f,hf⟩:∃f,f=pa[j]:=⟨_,rfl⟩
  rw[<-hf] at cD hdj pY
  refine tq (rQ f3 f16 f17 f18 q1 cD hx cJ fQ aQp aA4) ?_;intro Nx aB Gx aF
  refine(ih (kk - 1) (by omega) f S2 _ ⟨hdj.1,by omega⟩ (by omega) aA4 aGq hn2 EM ?_).mono ?_
  ·intro k hk hkf b hb
   rw[CB] at hk ⊢
   rcases hk with hk|rfl|⟨p,hp,hk⟩
   ·exact .inl (hSc k hk (by omega) b hb)
   ·omega
   ·exact .inr (.inr ⟨p,hp,hk.trans hb⟩)
  rintro d _ ⟨S3,rfl,hn3,hi3,hm3⟩
  refine tq (dG f18 w3) ?_;intro Nx aB Gx aF
  refine⟨fQ,aT,f0,f1,f2,f3,f16,f17,rfl,S3,by show s.H.bH bm _=_;rw[mV];exact oW _ _ _ _,hn3,hi3,fun x=>?_⟩
  rw[hm3 x,CB x,pY]
  simp only[bV,cR]
  constructor
  ·rintro((h|h|⟨p,hp,h⟩)|h)
   ·exact .inl h
   ·exact .inr (.inl h)
   ·exact .inr (.inr ⟨p,.inl hp,h⟩)
   ·exact .inr (.inr ⟨f,.inr rfl,h⟩)
  ·rintro(h|h|⟨p,hp|rfl,h⟩)
   ·exact .inl (.inl h)
   ·exact .inl (.inr (.inl h))
   ·exact .inl (.inr (.inr ⟨p,hp,h⟩))
   ·exact .inr h
theorem aRX (ts:List dS) (a:Int) (H:aC) (hw:zJ ts) (wI:ts.length<=1000000) (oF:∀t∈ts,t.ar.length<=140737488351232):
  bE prog 120 [.seq 5 (ts.map cP),i64 a] H fun d H'=>∃bm S,d=.val (.map (some bm))/\H bm=none/\H' bm=some (.map (SM S))/\H.le H'/\S.Nodup/\(∀x∈S,cE ts.length x)/\∀x,x∈S↔cE ts.length a/\TO tX ts a x:=by
 have fN:=lm cP ts
 have aS:=aG H
 refine aQ _ _ func120 rfl rfl ntmps120 results120 (by simp) fun w0 g0 Q aD=>?_
 refine tq trivial ?_;intro Nx aB Gx aF
 intro c2 lH
 refine aB _ ?_
 refine fZ 2 lH ?_
 refine tq fN ?_;intro Nx aB Gx aF
 intro bm tR b5 hb5
 have aNv:(H.bH bm (.map [])) b5=none:=hb5
 refine aB _ ?_
 refine cA 5 rfl (aO _ _ _) rfl ?_
 refine eV (H.bH bm (.map [])) (fun x z hz=>?_) ?_
 ·have e1:x≠b5:=fun e=>by rw[e,aNv] at hz;cases hz
  show(((H.bH bm _).bH b5 _).del b5) x=_
  rw[bS e1,aN e1]
  exact hz
 simp only[St.jH,List.drop]
 refine tq trivial ?_;intro Nx aB Gx aF
 intro bf hbf
 (have fs:=trivial;(iterate 4 (first|refine aF _ ?_|refine aB _ ?_|refine dW ?_|refine dV ?_|refine fE ?_|refine cU ?_|refine cV ?_|refine cL ?_|refine bP ?_|((first|refine tS fun Nx aB=>?_|refine mS rfl rfl (by kernel_rfl) (by kernel_rfl) fun Gx aF=>?_|refine cH (by kernel_rfl) ?_|refine mJ fun A B wL wM=>?_);refine qK ?_;(first|refine aF _ ?_|refine aB _ ?_|refine wL ?_|refine wM ?_|skip))));(try clear fs))
 have z8:bm≠bf:=nZ (aO _ _ _) hbf
 have RA:H bf=none:=(bY.1 hbf).2
 by_cases h1:0<=a
 case neg=>
  have q1:(0<=a)=False:=aI h1
  refine tq q1 ?_;intro Nx aB Gx aF
  refine rt aD trivial ?_
  exact⟨_,aG _,bm,[],rfl,tR,(aN z8).trans (aO _ _ _),bK (bK (aG _) tR) RA,by simp,by simp,fun x=>⟨fun h=>(by cases h),fun h=>absurd h.1.1 h1⟩⟩
 have q1:(0<=a)=True:=aK h1
 by_cases h2:a<ts.length
 case neg=>
  have q2:(a<(ts.length:Int))=False:=aI h2
  refine tq (eA q1 q2 fN) ?_;intro Nx aB Gx aF
  refine rt aD trivial ?_
  exact⟨_,aG _,bm,[],rfl,tR,(aN z8).trans (aO _ _ _),bK (bK (aG _) tR) RA,by simp,by simp,fun x=>⟨fun h=>(by cases h),fun h=>absurd h.1.2 h2⟩⟩
 have q2:(a<(ts.length:Int))=True:=aK h2
 refine tq (eA q1 q2 fN) ?_;intro Nx aB Gx aF
 refine(aPE ts bm bf hw wI oF z8 ts.length a [] _ ⟨by omega,by omega⟩ (by omega) (aO _ _ _) ((aN z8).trans (aO _ _ _)) (by simp) (by simp) (by simp)).mono ?_
 rintro d _ ⟨S,rfl,hn,hi,hm⟩
 refine tq trivial ?_;intro Nx aB Gx aF
 refine rt aD trivial ?_
 refine⟨_,aG _,bm,S,rfl,tR,aO _ _ _,bK (bK (bK (aG _) tR) RA) tR,hn,hi,fun x=>?_⟩
 rw[hm x]
 exact⟨fun h=>h.elim (fun h=>by cases h) fun h=>⟨⟨h1,h2⟩,h⟩,fun h=>.inr h.2⟩
def rbd (ts:List dS) (n:Int):Prop:=∀t∈ts,t.k=3->0<=t.r/\t.r<n
theorem aL3 {ts:List dS} {a:Int} {S out:List Int} (hb:rbd ts 1000000) (hS:∀x,x∈S↔cE ts.length a/\TO tX ts a x) (hi:∀x∈S,cE ts.length x) (ho:∀x,x∈out↔∃b∈S,(cZ ts b).k=3/\(cZ ts b).r=x):tP (fX out)=MD ts a:=by
 refine BO (MV (J9 out)) (aBL ts a) fun x=>?_
 rw[JB,FM,ho,SA]
 constructor
 ·rintro⟨b,DQ,h3,hr⟩
  have h1:=(hS b).1 DQ
  have:=hb _ (wV (hi b DQ)) h3
  exact⟨⟨by omega,by omega⟩,h1.1,b,h1.2,h3,hr⟩
 ·rintro⟨_,h1,b,h2,h3,hr⟩
  exact⟨b,(hS b).2 ⟨h1,h2⟩,h3,hr⟩
theorem aMI (ts:List dS) (a:Int) (H:aC) (hw:zJ ts) (hb:rbd ts 1000000) (wI:ts.length<=1000000) (oF:∀t∈ts,t.ar.length<=140737488351232):
  bE prog 57 [.seq 5 (ts.map cP),i64 a] H fun d H'=>d=.seq 1 ((MD ts a).map iD)/\H=H':=by
 refine bO (K:=fun d=>d=.seq 1 ((MD ts a).map iD)) ?_
 have fN:=lm cP ts
 refine aQ _ _ func57 rfl rfl ntmps57 results57 (by simp) fun w0 g0 Q aD=>?_
 refine tq trivial ?_;intro Nx aB Gx aF
 refine(aRX ts a H hw wI oF).mono ?_
 rintro d H1 ⟨bm,S,rfl,tR,uK,kU,hSn,hSi,hSm⟩
 refine tq trivial ?_;intro Nx aB Gx aF
 refine P9 (SV S) rfl (show(10:Nat)<33 by decide) underlying188 rfl uK ?_
 intro r H2 JP hrb hR2 aQa
 have pC:H.le H2:=fun x z hz=>by
  have h1:=kU x z hz
  rw[aQa x (fun e=>by rw[e,tR] at hz;cases hz) (fun e=>by rw[e] at h1;exact absurd (JP.symm.trans h1) (by simp))]
  exact h1
 have aK8:H r=none:=by
  cases h:H r with
  |none=>rfl
  |some z=>exact absurd (JP.symm.trans (kU r z h)) (by simp)
 refine aB _ ?_
 refine tq trivial ?_;intro Nx aB Gx aF
 refine pZ (fun k s=>∃(kO dn out:List Int) (ob:Option Nat),k=kO.length/\s.df=[]/\s.fr 0=.seq 5 (ts.map cP)/\s.fr 10=.val (.pointer (some ⟨r,0,none⟩))/\TP s.H bm r (SV kO)/\H.le s.H/\Gl H 3 1 (out.map iD) (s.fr 5) s.H ob/\ob≠some bm/\ob≠some r/\(∀x,x∈S↔x∈dn\/x∈kO)/\(∀x,x∈out↔∃b∈dn,(cZ ts b).k=3/\(cZ ts b).r=x)/\out.length<=dn.length/\dn.length+kO.length=S.length) S.length ⟨S,[],[],none,rfl,rfl,rfl,rfl,hR2,pC,iW _ _ _ _,by simp,by simp,by simp,by simp,by simp,by simp⟩ ?_
 rintro n s ⟨kO,dn,out,ob,rfl,aT,f0,f10,hR,aS,hg,LX,vF,hdn,rU,hol,hdl⟩
 obtain⟨d5,hd5⟩:∃d5,d5=s.fr 5:=⟨_,rfl⟩
 rw[<-hd5] at hg
 have hSl:=rC hSn hSi
 refine tq f10 ?_;intro Nx aB Gx aF
 refine IX rfl (show(11:Nat)<33 by decide) f10 hR (fun YH=>?_) (fun l1 p l2 H3 YH hR3 hE3 qS=>?_)
 ·have T6:kO=[]:=by
   cases kO with
   |nil=>rfl
   |cons a l=>cases YH
  subst T6
  have jQ:=aL3 hb hSm hSi (out:=out) (fun x=>by rw[rU];constructor <;> (rintro⟨b,h1,h2⟩;exact⟨b,by have:=hdn b;simp at this;first|exact this.2 h1|exact this.1 h1,h2⟩))
  (have fs:=trivial;refine qK ?_;try clear fs);(first|refine aF _ ?_|refine aB _ ?_|skip)
  refine tq trivial ?_;intro Nx aB Gx aF
  rw[hd5] at hg
  have aY:H.le s.H:=aS
  rcases hg with⟨_,e1,e2⟩|⟨c,o,e0,e1,e2,e3⟩
  ·have aQo:out=[]:=by simpa using e2
   rw[e1]
   refine(KA _).mono ?_
   rintro d _ ⟨rfl,rfl⟩
   refine tq e1 ?_;intro Nx aB Gx aF
   refine(MW _).mono ?_
   rintro d _ ⟨rfl,rfl⟩
   refine tq trivial ?_;intro Nx aB Gx aF
   refine rt aD aT ?_
   exact⟨_,aG _,aY,.seq 1 [],qA,by rw[<-jQ,aQo];simp [fX,tP]⟩
  ·have a2A:out.length<=1000000:=by omega
   rw[bC] at e1
   rw[e1]
   refine(KB e3 (by omega)).mono ?_
   rintro d _ ⟨rfl,rfl⟩
   refine tq e1 ?_;intro Nx aB Gx aF
   have h5:((s.H.bH c (.row 3 o 1 ((fX out).map iD))) c)=some (.row 3 o 1 ((fX out).map iD)):=aO _ _ _
   have h6:=MX h5 (by rw[iF];omega)
   rw[iF] at h6
   refine h6.mono ?_
   rintro d _ ⟨rfl,K2,rfl,aHB⟩
   refine tq trivial ?_;intro Nx aB Gx aF
   refine rt aD aT ?_
   have eM:H.le (s.H.bH c (.row 3 o 1 (K2.map iD))):=bK aY e2
   have hnl:(tP (fX out)).length<=K2.length:=by have:=cS List.length aHB;rw[dU] at this;omega
   exact⟨_,aG _,eM,_,yY (k:=0) eM (aO _ _ _) e2 (by rw[bC];omega),by rw[jB,<-qB,aHB,jQ]⟩
 ·obtain⟨t1,t2',e1,e2,e3⟩:=KM.1 YH
  obtain⟨b,t2,e4,e5,e6⟩:=KQ.1 e3
  subst e1 e4 e2 e6 e5
  have aCB:∀x,x∈S↔x∈dn++[b]\/x∈t1++t2:=fun x=>by
   rw[hdn x,bV,bV,bV,dJ,cR]
   constructor
   ·rintro(h|h|h|h)
    ·exact .inl (.inl h)
    ·exact .inr (.inl h)
    ·exact .inl (.inr h)
    ·exact .inr (.inr h)
   ·rintro((h|h)|h|h)
    ·exact .inl h
    ·exact .inr (.inr (.inl h))
    ·exact .inr (.inl h)
    ·exact .inr (.inr (.inr h))
  have hbS:b∈S:=(aCB b).2 (.inl (by simp))
  have TC:=hSi b hbS
  have hR4:TP H3 bm r (SV (t1++t2)):=by
   have:SV (t1++t2)=SV t1++SV t2:=cQ
   rw[this];exact hR3
  have qY:H.le H3:=fun x z hz=>(qS x (fun e=>by rw[e,aK8] at hz;cases hz)).trans (aS x z hz)
  have TF:Gl H 3 1 (out.map iD) d5 H3 ob:=hg.fS fun c hc=>qS c fun e=>vF (by rw[hc,e])
  have BT:dn.length+1+(t1++t2).length=S.length:=by rw[<-hdl,bN,bN,eO];omega
  have EK:=mD TC
  have h0a:0<=b:=TC.1
  have rJ:b.toNat<ts.length:=by unfold cE at TC;omega
  have BA:b<(ts.length:Int):=TC.2
  obtain⟨t,ht⟩:∃t,t=cZ ts b:=⟨_,rfl⟩
  have oQ:∀(aPB:List Int),(∀x,x∈aPB↔x∈out\/(t.k=3/\t.r=x))->∀x,x∈aPB↔∃b'∈dn++[b],(cZ ts b').k=3/\(cZ ts b').r=x:=fun aPB h x=>by
   rw[h x,rU x]
   constructor
   ·rintro(⟨b',h1,h2⟩|h)
    ·exact⟨b',by simp [h1],h2⟩
    ·exact⟨b,by simp,by rw[<-ht];exact h⟩
   ·rintro⟨b',h1,h2⟩
    rcases bV.1 h1 with h1|h1
    ·exact .inl ⟨b',h1,h2⟩
    ·rw[cR] at h1
     rw[h1,<-ht] at h2
     exact .inr h2
  rw[<-ht] at EK
  obtain⟨tk,tm,tr,te,ta⟩:=t
  simp only[cP] at EK
  have q3':tk=3\/tk≠3:=by omega
  rcases q3' with h3|h3
  ·have q3:(tk=3)=True:=aK h3
   (have fs:=trivial;refine qK ?_;try clear fs);(first|refine aF _ ?_|refine aB _ ?_|skip)
   refine tq trivial ?_;intro Nx aB Gx aF
   refine DZ rfl (show(13:Nat)<33 by decide) (by exact f10) hE3 ?_
   (have fs:=And.intro f0 (And.intro EK (And.intro h0a (And.intro rJ (And.intro BA (And.intro fN q3)))));refine qK ?_;try clear fs);(first|refine aF _ ?_|refine aB _ ?_|skip)
   refine tq (nF f0 EK h0a rJ BA fN q3) ?_;intro Nx aB Gx aF
   rw[hd5] at TF
   refine dD (e:=3) kZ rfl kZ rfl PF rfl (by decide) qY TF (new:=[iD tr]) (by exact⟨rfl,rfl⟩) (by rw[bC];show(_+1) * 8<=_;omega) fun d H6 oG j6 eM nJ=>?_
   have hg7:Gl H 3 1 ((out++[tr]).map iD) d H6 oG:=by rw[cQ];exact j6
   obtain⟨zb,hzb⟩:∃z,H3 bm=some z:=by obtain⟨_,_,_,_,_,h,_⟩:=hR4;exact⟨_,h⟩
   obtain⟨zr,hzr⟩:∃z,H3 r=some z:=by obtain⟨_,_,_,_,_,_,h,_⟩:=hR4;exact⟨_,h⟩
   have k1:=nJ bm zb hzb LX
   have k2:=nJ r zr hzr vF
   refine tq trivial ?_;intro Nx aB Gx aF
   exact⟨_,by show(t1++t2).length<(t1++b::t2).length;rw[bN,bN,eO];omega,t1++t2,dn++[b],out++[tr],oG,rfl,aT,f0,f10,hR4.fS (k1.1.trans hzb.symm) (k2.1.trans hzr.symm),eM,hg7,k1.2,k2.2,aCB,oQ (out++[tr]) fun x=>by rw[bV,cR];exact⟨fun h=>h.imp id fun h=>⟨h3,h.symm⟩,fun h=>h.imp id fun h=>h.2.symm⟩,by rw[bN,bN];simpa using hol,by rw[bN];exact BT⟩
  ·have q3:(tk=3)=False:=aI h3
   (have fs:=trivial;refine qK ?_;try clear fs);(first|refine aF _ ?_|refine aB _ ?_|skip)
   refine tq trivial ?_;intro Nx aB Gx aF
   refine DZ rfl (show(13:Nat)<33 by decide) (by exact f10) hE3 ?_
   (have fs:=And.intro f0 (And.intro EK (And.intro h0a (And.intro rJ (And.intro BA (And.intro fN q3)))));refine qK ?_;try clear fs);(first|refine aF _ ?_|refine aB _ ?_|skip)
   refine tq (nF f0 EK h0a rJ BA fN q3) ?_;intro Nx aB Gx aF
   refine tq trivial ?_;intro Nx aB Gx aF
   exact⟨_,by show(t1++t2).length<(t1++b::t2).length;rw[bN,bN,eO];omega,t1++t2,dn++[b],out,ob,rfl,aT,f0,f10,hR4,qY,by rw[hd5] at TF;exact TF,LX,vF,aCB,oQ out fun x=>⟨.inl,fun h=>h.elim id fun h=>absurd h.1 h3⟩,by rw[bN];omega,by rw[bN];exact BT⟩
noncomputable def uRg (b:cT) (L:List Int):List Int:=L.flatMap fun x=>MD b.ty (tyL b x)
theorem aBK (ts:List dS) (i:Int):(MD ts i).length<=1000000:=by
 unfold MD
 have:=r9 (fun r=>aDq ts i r) ((List.range 1000000).map Int.ofNat)
 rwa[bC,PY] at this
theorem aEU (b:cT) (L:List Int):(uRg b L).length<=L.length * 1000000:=EE fun x _=>aBK _ _
theorem aIt {b:cT} {L:List Int} {j:Nat} (h:j<L.length):uRg b (L.take (j+1))=uRg b (L.take j)++MD b.ty (tyL b L[j]):=by
 unfold uRg
 rw[dH h,CU]
 simp
def JS (p:Int) (S:List (Int×Int)) (l:List Int):List (Int×Int):=l.foldl (fun S r=>HV S (r,p)) S
theorem aFK {p:Int} {S:List (Int×Int)} {l:List Int} {j:Nat} (h:j<l.length):JS p S (l.take (j+1))=HV (JS p S (l.take j)) (l[j],p):=by
 unfold JS
 rw[dH h,zP]
 rfl
theorem aAr {p:Int} {l:List Int}:∀{S:List (Int×Int)} {y:Int×Int},y∈JS p S l↔y∈S\/(y.2=p/\y.1∈l):=by
 induction l with
 |nil=>intro S y;simp [JS]
 |cons r l ih=>
  intro S y
  have e:JS p S (r::l)=JS p (HV S (r,p)) l:=rfl
  rw[e,ih,aAs,dJ]
  constructor
  ·rintro((h|h)|h)
   ·exact .inl h
   ·rw[h];exact .inr ⟨rfl,.inl rfl⟩
   ·exact .inr ⟨h.1,.inr h.2⟩
  ·rintro(h|⟨h1,h2|h2⟩)
   ·exact .inl (.inl h)
   ·exact .inl (.inr (tK h2 h1))
   ·exact .inr ⟨h1,h2⟩
theorem aHU (p:Int) (l:List Int):∀S,(JS p S l).length<=S.length+l.length:=by
 induction l with
 |nil=>intro S;exact dI _
 |cons r l ih=>
  intro S
  have e:JS p S (r::l)=JS p (HV S (r,p)) l:=rfl
  have h1:=ih (HV S (r,p))
  have h2:=aHV S (r,p)
  rw[e,eO];omega
theorem aN2 (b:cT) {p:Int} {L:List Int} (hL:∀x,x∈L↔GZ b p x) (hw:zJ b.ty) (hrb:rbd b.ty 1000000) (r:Int):r∈DA b.ol b.rg.length (uRg b L) b.rg.length↔LvR b r p:=by
 unfold DA
 rw[jX,eW,F6]
 constructor
 ·rintro⟨_,m,hm,ho⟩
  obtain⟨x,hx,hm⟩:=tF.1 hm
  exact⟨x,m,(hL x).1 hx,(SA.1 hm).2,ho⟩
 ·rintro⟨x,m,hx,hm,ho⟩
  have OX:cE b.rg.length r/\cE b.rg.length m/\Reach b.ol r m:=by
   refine jO fun h=>?_
   rw[rM h] at ho;cases ho
  obtain⟨h0,h1⟩:=OX.1
  refine⟨⟨r.toNat,by rw[oB];omega,by omega⟩,m,tF.2 ⟨x,(hL x).2 hx,SA.2 ⟨?_,hm⟩⟩,ho⟩
  obtain⟨hi,t,ht,h3,hr⟩:=hm
  have FA:cE b.ty.length t:=by
   have h1:=ht.le (Dn.A hw) hi
   unfold cE at hi ⊢
   omega
  have:=hrb _ (wV FA) h3
  rw[hr] at this
  exact this
theorem YQ {b:cT} {r p:Int} (h:LvR b r p):cE b.rg.length r:=by
 obtain⟨x,m,hx,hm,ho⟩:=h
 refine jO fun h=>?_
 rw[rM fun h2=>h h2.1] at ho;cases ho
theorem aCR {b:cT} {r p:Int} (h:LvR b r p):0<=p/\p<bZ (dK b):=by
 obtain⟨x,m,hx,hm,ho⟩:=h
 exact(YR hx).1
end Go.Proofs.YtfiipaodjpiooaaGreatDoor

