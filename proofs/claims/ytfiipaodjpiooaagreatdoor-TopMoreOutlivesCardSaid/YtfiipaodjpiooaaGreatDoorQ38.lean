/- Lemmas and contracts of functions, several texts in one. -/
import Derived.Test.YtfiipaodjpiooaaGreatDoorQ14
set_option maxRecDepth 100000
set_option maxHeartbeats 4000000
set_option linter.all false
namespace Go.Proofs.YtfiipaodjpiooaaGreatDoor
open Go.RowKit
open Tryz
theorem QX:aFn prog 48 [false,false]:=aEs (e:=3) (by kernel_rfl) (i:=(prog.info? 3).get!) (by kernel_rfl) (by kernel_rfl) (by kernel_rfl) ⟨by kernel_rfl,by kernel_rfl⟩
theorem wK {l:List (Int×Int)} {i:Nat} (h:i<l.length):(l.map pD)[i]?=some [.val (.int .i64 l[i].1),.val (.int .i64 l[i].2)]:=by
 rw[dN,bX h];rfl
def EqP (l m:List (Int×Int)) (i:Nat) (s:St):Prop:=s.df=[]/\s.fr 0=.seq 2 (l.map pD)/\s.fr 1=.seq 2 (m.map pD)/\s.fr 12=i64 l.length/\s.fr 13=i64 i/\s.H=aC.none/\l.take i=m.take i
theorem aEv (l m:List (Int×Int)) (hl:l.length<=140737488351232):bE prog 13 [.seq 2 (l.map pD),.seq 2 (m.map pD)] .none fun d _=>d=.val (.bool (decide (l=m))):=by
 have jY:=lm pD l
 have dX:=lm pD m
 have hET:=aK QX
 refine aQ _ _ func13 rfl rfl ntmps13 results13 (by simp) fun w0 g0 Q aD=>?_
 by_cases hlm:l.length=m.length
 case neg=>
  have q:((l.length:Int)=(m.length:Int))=False:=aI (by omega)
  refine tq (eA jY dX q) ?_;intro Nx aB Gx aF
  refine rt aD trivial ?_
  exact⟨_,aG _,by rw[bB fun e=>hlm (by rw[e])]⟩
 have q:((l.length:Int)=(m.length:Int))=True:=aK (by omega)
 have hmm:(m.length:Int)=(l.length:Int):=by omega
 refine tq (eA jY dX q) ?_;intro Nx aB Gx aF
 refine aZ l.length (EqP l m) ⟨rfl,rfl,rfl,rfl,rfl,rfl,by simp⟩ ?_
 rintro i s hi ⟨aT,f0,f1,f12,f13,hH,pY⟩
 have hx:=bI i
 have cJ:=bM i
 by_cases aV:i<l.length
 case neg=>
  have q1:=lF i l.length (by omega)
  rw[cW (by omega),cW (by omega)] at pY
  refine tq (eA f12 f13 q1) ?_;intro Nx aB Gx aF
  refine rt aD aT ?_
  exact⟨_,aG _,by rw[bG pY]⟩
 have q1:=lT i l.length (by omega)
 have VH:i<m.length:=by omega
 have cD:=wK aV
 have OV:=wK VH
 have w3:=wS i (by omega)
 have fM:l[i]≠m[i]->decide (l=m)=false:=fun h=>bB (by rintro rfl;exact h rfl)
 by_cases h2:l[i].1=m[i].1
 ·have q2:(l[i].1=m[i].1)=True:=aK h2
  by_cases h3:l[i].2=m[i].2
  ·have q3:(l[i].2=m[i].2)=True:=aK h3
   refine tq (eA f12 f13 q1) ?_;intro Nx aB Gx aF
   refine dE (fun _ _ _ _=>False) fun Nx aB=>?_;refine dst (aEb f0 f1 jY dX cD OV hx cJ aV VH q2 q3 hET @lR @rN) ?_;intro Nx aB Gx aF
   refine tq (eA f13 w3 q2) ?_;intro Nx aB Gx aF
   refine⟨aV,aT,f0,f1,f12,rfl,hH,?_⟩
   rw[dH aV,dH VH,pY,tK h2 h3]
  ·have q3:(l[i].2=m[i].2)=False:=aI h3
   refine tq (eA f12 f13 q1) ?_;intro Nx aB Gx aF
   refine dE (fun _ _ _ _=>False) fun Nx aB=>?_;refine dst (aAN f0 f1 jY dX cD OV hx cJ aV VH q2 q3 hET @lR @kI @uU) ?_;intro Nx aB Gx aF
   refine tq (eA f13 w3 q2) ?_;intro Nx aB Gx aF
   refine rt aD aT ?_
   exact⟨_,aG _,by rw[fM fun h=>h3 (by rw[h])]⟩
 ·have q2:(l[i].1=m[i].1)=False:=aI h2
  refine tq (eA f12 f13 q1) ?_;intro Nx aB Gx aF
  refine dE (fun _ _ _ _=>False) fun Nx aB=>?_;refine dst (DH f0 f1 jY dX cD OV hx cJ aV VH q2 hET @gC @uU) ?_;intro Nx aB Gx aF
  refine tq (eA f13 w3 q2) ?_;intro Nx aB Gx aF
  refine rt aD aT ?_
  exact⟨_,aG _,by rw[fM fun h=>h2 (by rw[h])]⟩
theorem QY (H:aC) (l m:List (Int×Int)) (hl:l.length<=140737488351232):bE prog 13 [.seq 2 (l.map pD),.seq 2 (m.map pD)] H fun d H'=>d=.val (.bool (decide (l=m)))/\H=H':=
 MC (aEv l m hl) rfl (aJC (tE _ _) (tE _ _))
end Go.Proofs.YtfiipaodjpiooaaGreatDoor

