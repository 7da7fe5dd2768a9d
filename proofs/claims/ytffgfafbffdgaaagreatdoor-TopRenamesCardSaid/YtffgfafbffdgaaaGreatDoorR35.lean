/- Lemmas and contracts of functions, several texts in one. -/
import Derived.Test.YtffgfafbffdgaaaGreatDoorR34
import Derived.Test.YtffgfafbffdgaaaGreatDoorR33
set_option maxRecDepth 100000
set_option maxHeartbeats 4000000
set_option linter.all false
namespace Go.Proofs.YtffgfafbffdgaaaGreatDoor
open Go.RowKit
open Tryz
variable {x:X}
theorem XR (l:List Int)(H:aA)(hl:cH l.length):aN prog 61 [.seq 1 (l.map iD),.seq 1 (l.map iD)] H λd H'=>d=.val (.bool true)/\H=H':=by
 unfold cH at hl;have b:=lm iD l;refine dO func61 ntmps61 results61 λv t Q o=>?_;refine tn b ?_;refine aO l.length (λi s=>s.df=[]/\s.fr 0=.seq 1 (l.map iD)/\s.fr 1=.seq 1 (l.map iD)/\s.fr 5=i64 i/\s.H=H) ⟨rfl,rfl,rfl,rfl,rfl⟩ ?_;rintro i s u ⟨c,g,m,h,n⟩;by_cases a:i<l.length
 case neg=>
  have k:=lF i l.length;refine ur o (cA g h b k) c ?_;exact⟨_,aF _,n.symm⟩
 have k:=lT i l.length a;have p:=aX i;have j:=aZ i;have e:=bZ (f:=iD) a;have r:=wS i;simp only[iD,i64] at e;refine tq (cA g h b k) ?_;intro U Y O C;refine dE (λ_ _ _ _=>False) λU Y=>?_;refine dst (bG g m h b e p j a) ?_;intro U Y O C;refine tn (av h r) ?_;exact⟨a,c,g,m,rfl,n⟩
theorem XT (l:List ByteArray)(H:aA)(hl:cH l.length):aN prog 31 [.seq 1 (l.map sD),.seq 1 (l.map sD)] H λd H'=>d=.val (.bool true)/\H=H':=by
 unfold cH at hl;have b:=lm sD l;refine dO func31 ntmps31 results31 λv t Q o=>?_;refine tn b ?_;refine aO l.length (λi s=>s.df=[]/\s.fr 0=.seq 1 (l.map sD)/\s.fr 1=.seq 1 (l.map sD)/\s.fr 5=i64 i/\s.H=H) ⟨rfl,rfl,rfl,rfl,rfl⟩ ?_;rintro i s u ⟨c,g,m,h,n⟩;by_cases a:i<l.length
 case neg=>
  have k:=lF i l.length;refine ur o (cA g h b k) c ?_;exact⟨_,aF _,n.symm⟩
 have k:=lT i l.length a;have p:=aX i;have j:=aZ i;have e:=bZ (f:=sD) a;have r:=wS i;simp only[sD] at e;refine tq (cA g h b k) ?_;intro U Y O C;refine dE (λ_ _ _ _=>False) λU Y=>?_;refine dst (bG g m h b e p j a) ?_;intro U Y O C;refine tn (av h r) ?_;exact⟨a,c,g,m,rfl,n⟩
theorem XS (l:List (Int×Int))(H:aA)(hl:cH l.length):aN prog 32 [.seq 2 (l.map pD),.seq 2 (l.map pD)] H λd H'=>d=.val (.bool true)/\H=H':=by
 unfold cH at hl;have b:=lm pD l;have k:=aG LO;refine dO func32 ntmps32 results32 λw u Q p=>?_;refine tn b ?_;refine aO l.length (λi s=>s.df=[]/\s.fr 0=.seq 2 (l.map pD)/\s.fr 1=.seq 2 (l.map pD)/\s.fr 5=i64 i/\s.H=H) ⟨rfl,rfl,rfl,rfl,rfl⟩ ?_;rintro i s v ⟨c,g,n,h,o⟩;by_cases a:i<l.length
 case neg=>
  have m:=lF i l.length;refine ur p (cA g h b m) c ?_;exact⟨_,aF _,o.symm⟩
 have m:=lT i l.length a;have r:=aX i;have j:=aZ i;have e:=bZ (f:=pD) a;have t:=wS i;simp only[pD,i64] at e;refine tq (cA g h b m) ?_;intro U Y O C;refine dE (λ_ _ _ _=>False) λU Y=>?_;refine dst (bG g n h b e r j (cA a k @fu @kF)) ?_;intro U Y O C;refine tn (av h t) ?_;exact⟨a,c,g,n,rfl,o⟩
theorem Wj (a:gR)(H:aA)(ha:xN a):aN prog 135 [.agg (ee a),.agg (ee a)] H λd H'=>d=.val (.bool true)/\H=H':=by
 unfold xN cH at ha;have c:=lm pD a.pr;have m:=aG CM;refine dO func135 ntmps135 results135 λE A Q t=>?_;refine tq @ee.eq_1 ?_;intro U Y O C;intro y n z o;refine Y _ ?_;refine uB 2 3 n o ?_;have v:=nF ((a.pr.length:Int)<(a.pr.length:Int));refine tn (av v c) ?_;refine aO a.pr.length (λi s=>s.df=[]/\s.fr 2=.rp (ee a)/\s.fr 3=.rp (ee a)/\s.fr 5=i64 i/\s.H=H) ⟨rfl,rfl,rfl,rfl,rfl⟩ ?_;rintro i s B ⟨g,e,k,j,r⟩;simp only[ee] at e k;by_cases b:i<a.pr.length
 case neg=>
  have p:=lF i a.pr.length;refine ur t (cA e j c p) g ?_;exact⟨_,aF _,r.symm⟩
 have p:=lT i a.pr.length b;have u:=aX i;have l:=aZ i;have h:=bZ (f:=pD) b;have w:=wS i;simp only[pD,i64] at h;refine tq (cA e j c p) ?_;intro U Y O C;refine dE (λ_ _ _ _=>False) λU Y=>?_;refine dst (bG e k j c h u l (cA b m @fu @kF)) ?_;intro U Y O C;refine tn (av j w) ?_;exact⟨b,g,e,k,rfl,r⟩
theorem Du (a:gR)(H:aA)(ha:xN a):aN prog 63 [.agg (ee a),.agg (ee a)] H λd H'=>d=.val (.bool true)/\H=H':=by
 have e:=lm pD a.pr;have g:=λH=>Wj a H ha;refine dO func63 ntmps63 results63 λk j Q f=>?_;refine tq @ee.eq_1 ?_;intro U Y O C;intro h b i c;refine Y _ ?_;refine uB 2 3 b c ?_;refine tq e ?_;intro U Y O C;refine(g _).q ?_;refine u0 f ?_;exact⟨_,aF _,rfl⟩
theorem O4 (l:List gq)(H:aA)(hl:cH l.length)(n:∀x∈l,yW x):aN prog 62 [.seq 4 (l.map db),.seq 4 (l.map db)] H λd H'=>d=.val (.bool true)/\H=H':=by
 unfold cH at hl;have b:=lm db l;refine dO func62 ntmps62 results62 λz w Q t=>?_;refine tn b ?_;refine aO l.length (λi s=>s.df=[]/\s.fr 0=.seq 4 (l.map db)/\s.fr 1=.seq 4 (l.map db)/\s.fr 5=i64 i/\s.H=H) ⟨rfl,rfl,rfl,rfl,rfl⟩ ?_;rintro i s y ⟨e,h,p,j,r⟩;by_cases a:i<l.length
 case neg=>
  have o:=lF i l.length;refine ur t (cA h j b o) e ?_;exact⟨_,aF _,r.symm⟩
 have o:=lT i l.length a;have u:=aX i;have m:=aZ i;have g:=bZ (f:=db) a;have v:=wS i;have c:cP prog 63 [.agg (ee l[i].pl),.agg (ee l[i].pl)] s.H λd A=>A=aA.none/\d=.val (.bool true):=an λk _=>Du l[i].pl k (n _ (ao a));simp only[db] at g;simp only[ee] at c;refine tq (cA h j b o) ?_;intro U Y O C;refine dE (λ_ _ d A=>A=.none/\d=.val (.bool true)) λU Y=>?_;refine dst (bG h p j b g u m a) ?_;intro U Y O C;refine⟨c,?_⟩;refine nx ?_;refine dst trivial ?_;intro U Y O C;refine tn (av j v) ?_;exact⟨a,e,h,p,rfl,r⟩
theorem Yr (a:qO)(H:aA)(ha:PH a):aN prog 60 [.agg (ji a),.agg (ji a)] H λd H'=>d=.val (.bool true)/\H=H':=by
 have h:=λH=>Du a.pl H ha.1;have i:=λH=>Du a.rv.pl H ha.2.1;have j:=λH=>O4 a.rv.ar H ha.2.2.1 ha.2.2.2;refine dO func60 ntmps60 results60 λp o Q g=>?_;refine tq @ji.eq_1 ?_;intro U Y O C;intro k b l c;refine Y _ ?_;refine uB 2 3 b c ?_;refine t0 ?_;intro U Y O C;intro m e;refine Y _ ?_;refine cm 5 e ?_;refine t0 ?_;intro U Y O C;intro n f;refine Y _ ?_;refine cm 6 f ?_;refine t0 ?_;intro U Y O C;refine(h _).qt ?_;intro U Y O C;refine(i _).qt ?_;intro U Y O C;refine(j _).q ?_;refine u0 g ?_;exact⟨_,aF _,rfl⟩
theorem Yp (a:im)(H:aA)(ha:TI a):aN prog 34 [.agg (dM a),.agg (dM a)] H λd H'=>d=.val (.bool true)/\H=H':=by
 obtain⟨⟨L,w⟩,z,⟨p,n⟩,y⟩:=ha;unfold cH at L;have I:=λH=>XR a.tm.tg H z;have J:=λH=>O4 a.tm.ar H p n;have K:=λH=>Du a.tm.pl H y;have c:=lm ji a.st;refine dO func34 ntmps34 results34 λw0 V Q G=>?_;refine tq @dM.eq_1 ?_;intro U Y O C;intro P r R t;refine Y _ ?_;refine uB 2 3 r t ?_;refine tn c ?_;refine aO a.st.length (λi s=>s.df=[]/\s.fr 2=.rp (dM a)/\s.fr 3=.rp (dM a)/\s.fr 5=i64 i/\s.H=H) ⟨rfl,rfl,rfl,rfl,rfl⟩ ?_;rintro i s Z ⟨j,g,h,l,E⟩;simp only[dM] at g h;by_cases b:i<a.st.length
 case neg=>
  have B:=lF i a.st.length;refine tq (cw g h l c B) ?_;intro U Y O C;intro S u;refine Y _ ?_;refine cm 6 u ?_;refine tq h ?_;intro U Y O C;intro T v;refine Y _ ?_;refine cm 7 v ?_;refine t0 ?_;intro U Y O C;refine(I _).qt ?_;intro U Y O C;refine(J _).qt ?_;intro U Y O C;refine(K _).q ?_;refine ur G trivial j ?_;exact⟨_,aF _,E.symm⟩
 have B:=lT i a.st.length b;have M:=aX i;have o:=aZ i;have k:=bZ (f:=ji) b;have N:=wS i;have e:cP prog 60 [.agg (ji a.st[i]),.agg (ji a.st[i])] s.H λd A=>A=aA.none/\d=.val (.bool true):=an λm _=>Yr a.st[i] m (w _ (ao b));simp only[ji] at k e;refine tq (cA g l c B) ?_;intro U Y O C;refine dE (λ_ _ d A=>A=.none/\d=.val (.bool true)) λU Y=>?_;refine dst (bG g h l c k M o b) ?_;intro U Y O C;refine⟨e,?_⟩;refine nx ?_;refine dst trivial ?_;intro U Y O C;refine tn (av l N) ?_;exact⟨b,j,g,h,rfl,E⟩
theorem Yo (a:bn)(H:aA)(ha:xM a):aN prog 9 [.agg (cu a),.agg (cu a)] H λd H'=>d=.val (.bool true)/\H=H':=by
 obtain⟨M,P,⟨N,E⟩,L,I,B⟩:=ha;have S:=λH=>XT a.rg H M;have T:=λH=>XS a.ol H P;have G:=aG HJ;unfold cH at N L I;have m:=lm bS a.ty;have l:=lm eQ a.lc;have k:=lm dM a.bl;refine dO func9 ntmps9 results9 λw0 g0 Q R=>?_;refine tq @cu.eq_1 ?_;intro U Y O C;intro V J Z K;refine Y _ ?_;refine uB 2 3 J K ?_;refine tq (cA @bC.eq_1 m l k) ?_;intro U Y O C;refine(S _).qs (cA @bC.eq_1 m l k) ?_;intro U Y O C;refine(T _).qs (cA @bC.eq_1 m l k) ?_;intro U Y O C;refine aO a.ty.length (λi s=>s.df=[]/\s.fr 2=.rp (cu a)/\s.fr 3=.rp (cu a)/\s.fr 5=i64 i/\s.H=H) ⟨rfl,rfl,rfl,rfl,rfl⟩ ?_;rintro i s z ⟨e,c,h,u,p⟩;simp only[cu] at c h;have t:=aX i;have j:=aZ i;by_cases b:i<a.ty.length
 case pos=>
  have n:=lT i a.ty.length b;have g:=bZ (f:=bS) b;have w:=wS i;have o:cP prog 33 [.agg (bS a.ty[i]),.agg (bS a.ty[i])] s.H λd A=>A=aA.none/\d=.val (.bool true):=an λr _=>by
   have:=O6 a.ty[i] a.ty[i] r (E _ (ao b));rwa[ah rfl] at this
  simp only[bS] at g o;refine tq (cA c u m n) ?_;intro U Y O C;refine dE (λ_ _ d A=>A=.none/\d=.val (.bool true)) λU Y=>?_;refine dst (bG c h u m g t j b) ?_;intro U Y O C;refine⟨o,?_⟩;refine nx ?_;refine dst trivial ?_;intro U Y O C;refine tn (av u w) ?_;exact⟨b,e,c,h,rfl,p⟩
 have n:=lF i a.ty.length;refine tn (cA c u m n) ?_;refine aO a.lc.length (λi s=>s.df=[]/\s.fr 2=.rp (cu a)/\s.fr 3=.rp (cu a)/\s.fr 6=i64 i/\s.H=H) ⟨e,c,h,rfl,p⟩ ?_;clear e c h u p t j b n z;rintro i s z ⟨e,c,h,v,p⟩;simp only[cu] at c h;have t:=aX i;have j:=aZ i;by_cases b:i<a.lc.length
 case pos=>
  have n:=lT i a.lc.length b;have g:=bZ (f:=eQ) b;have w:=wS i;simp only[eQ,bC,i64] at g;refine tq (cA c v l n) ?_;intro U Y O C;refine dE (λ_ _ _ _=>False) λU Y=>?_;refine dst (bG c h v l g t j (cA b G @fu @kF)) ?_;intro U Y O C;refine tn (av v w) ?_;exact⟨b,e,c,h,rfl,p⟩
 have n:=lF i a.lc.length;refine tn (cA c v l n) ?_;refine aO a.bl.length (λi s=>s.df=[]/\s.fr 2=.rp (cu a)/\s.fr 3=.rp (cu a)/\s.fr 7=i64 i/\s.H=H) ⟨e,c,h,rfl,p⟩ ?_;clear e c h v p t j b n z;rintro i s z ⟨e,c,h,y,p⟩;simp only[cu] at c h;have t:=aX i;have j:=aZ i;by_cases b:i<a.bl.length
 case neg=>
  have n:=lF i a.bl.length;refine ur R (cA c y k n) e ?_;exact⟨_,aF _,p.symm⟩
 have n:=lT i a.bl.length b;have g:=bZ (f:=dM) b;have w:=wS i;have o:cP prog 34 [.agg (dM a.bl[i]),.agg (dM a.bl[i])] s.H λd A=>A=aA.none/\d=.val (.bool true):=an λr _=>Yp a.bl[i] r (B _ (ao b));simp only[dM] at g o;refine tq (cA c y k n) ?_;intro U Y O C;refine dE (λ_ _ d A=>A=.none/\d=.val (.bool true)) λU Y=>?_;refine dst (bG c h y k g t j b) ?_;intro U Y O C;refine⟨o,?_⟩;refine nx ?_;refine dst trivial ?_;intro U Y O C;refine tn (av y w) ?_;exact⟨b,e,c,h,rfl,p⟩
theorem sT {a:Type}{f:a->Nat}(hf:∀x,1<=f x):∀l:List a,l.length<=sm f l
 |[]=>jY _
 |x::l=>by
  have h1:=hf x;have b:=sT hf l;simp only[sm,bx];omega
theorem Fu (l:List gq):Sx l=l.length+uZ l:=by
 unfold Sx uZ;rw[E2];have:sm (λ_:gq=>2) l=2 * l.length:=by
  have h:=BA (λ_:gq=>1) 2 l;rw[Az] at h;exact h
 omega
theorem Je (x:im):Ww x<=6 * vw x:=by
 have b:sm ZA x.st<=4 * x.st.length+2 * sm yH x.st:=by
  have e:sm ZA x.st<=sm (λs=>4 * 1+2 * yH s) x.st:=vq λs _=>by
   have:=Fu s.rv.ar;have a:s.rv.ar.length<=uZ s.rv.ar:=by unfold uZ;omega
   unfold ZA yH;omega
  rw[E2,BA,Az,BA] at e;exact e
 have a:=Fu x.tm.ar;have c:x.tm.ar.length<=uZ x.tm.ar:=by unfold uZ;omega
 unfold Ww nTm vw;omega
theorem X6 (b:bn):Jz b=b.nm.size+b.ol.length+sm (λs:ByteArray=>1+s.size) b.rg+sm (λt:bp=>1+t.ar.length) b.ty+sm (λl:mQ=>1+l.nm.size) b.lc+sm vw b.bl:=by unfold Jz t4 t3 t2 t1;rw[dI,dI,dI,dI]
theorem Pv {l:List gq}(h:uZ l<=3000):smO l:=by
 refine⟨by unfold uZ at h;omega,λo a=>?_⟩;have:=jh (f:=λo:gq=>o.pl.pr.length) a;unfold uZ at h;unfold Uw;omega
theorem HK:Gm prog 60 [false,false]:=CL (e:=3) (by kernel_rfl) (i:=(prog.info? 3).get!) (by kernel_rfl) (by kernel_rfl) (by kernel_rfl) ⟨by kernel_rfl,by kernel_rfl⟩
theorem JK {l:List (Int×Int)}{i:Nat}(h:i<l.length):(l.map pD)[i]?=some [.val (.int .i64 l[i].1),.val (.int .i64 l[i].2)]:=by rw[bg,az h];rfl
def EqP (l m:List (Int×Int)) (i:Nat) (s:St):Prop:=s.df=[]/\s.fr 0=.seq 2 (l.map pD)/\s.fr 1=.seq 2 (m.map pD)/\s.fr 12=i64 l.length/\s.fr 13=i64 i/\s.H=aA.none/\l.take i=m.take i
theorem LQ (l m:List (Int×Int))(hl:l.length<=140737488351232):aN prog 14 [.seq 2 (l.map pD),.seq 2 (m.map pD)] .none λd _=>d=.val (.bool (decide (l=m))):=by
 have g:=lm pD l;have j:=lm pD m;have o:=aG HK;refine dO func14 ntmps14 results14 λP M Q y=>?_;by_cases G:l.length=m.length
 case neg=>
  have q:=nF ((l.length:Int)=(m.length:Int));refine ur y (bQ g j q) trivial ?_;exact⟨_,aF _,by rw[af λe=>G (by rw[e])]⟩
 have q:=nT ((l.length:Int)=(m.length:Int));have L:(m.length:Int)=(l.length:Int):=by omega
 refine tn (bQ g j q) ?_;refine aO l.length (EqP l m) ⟨rfl,rfl,rfl,rfl,rfl,rfl,by simp⟩ ?_;rintro i s N ⟨k,z,A,c,a,K,t⟩;have H:=aX i;have n:=aZ i;by_cases b:i<l.length
 case neg=>
  have w:=lF i l.length;rw[bK (by omega),bK (by omega)] at t;refine ur y (bQ c a w) k ?_;exact⟨_,aF _,by rw[ah t]⟩
 have w:=lT i l.length;have f:i<m.length:=by omega
 have p:=JK b;have r:=JK f;have J:=wS i;have v:l[i]≠m[i]->decide (l=m)=false:=λh=>af (by rintro rfl;exact h rfl);by_cases B:l[i].1=m[i].1
 ·have u:(l[i].1=m[i].1)=True:=aG B
  by_cases E:l[i].2=m[i].2
  ·have I:(l[i].2=m[i].2)=True:=aG E
   refine tq (bQ c a w) ?_;intro U Y O C;refine dE (λ_ _ _ _=>False) λU Y=>?_;refine dst (bG z A g j p r H (bG n b f u I o @fu @kF)) ?_;intro U Y O C;refine tq (bQ a J u) ?_;intro U Y O C;refine⟨b,k,z,A,c,rfl,K,?_⟩;rw[bw b,bw f,t,mc B E]
  ·have I:(l[i].2=m[i].2)=False:=aI E
   refine tq (bQ c a w) ?_;intro U Y O C;refine dE (λ_ _ _ _=>False) λU Y=>?_;refine dst (bG z A g j p r H (bG n b f u I o @fu (av @fq @jW))) ?_;intro U Y O C;refine ur y (bQ a J u) k ?_;exact⟨_,aF _,by rw[v λh=>E (by rw[h])]⟩
 ·have u:(l[i].1=m[i].1)=False:=aI B
  refine tq (bQ c a w) ?_;intro U Y O C;refine dE (λ_ _ _ _=>False) λU Y=>?_;refine dst (bG z A g j p r H (ej n b f u o @dq @jW)) ?_;intro U Y O C;refine ur y (bQ a J u) k ?_;exact⟨_,aF _,by rw[v λh=>B (by rw[h])]⟩
theorem HL (H:aA)(l m:List (Int×Int))(hl:l.length<=140737488351232):aN prog 14 [.seq 2 (l.map pD),.seq 2 (m.map pD)] H λd H'=>d=.val (.bool (decide (l=m)))/\H=H':=
 qf (LQ l m hl) rfl (MM (iU _ _) (iU _ _))
theorem TK (h:DT.ok (.array 2 (.int .i64)) x):∃a b:Int,x=.agg [xI a,xI b]/\du a/\du b:=by
 simp only[DT.ok] at h;obtain⟨k,rfl,e,c⟩:=h
 match k,e,c with
 |[f,g],_,c=>
  obtain⟨n1,rfl,i⟩:=Hu (show DT.ok (.int .i64) f from by simp only[DT.ok];exact c f (by simp))
  obtain⟨n2,rfl,j⟩:=Hu (show DT.ok (.int .i64) g from by simp only[DT.ok];exact c g (by simp))
  exact⟨n1,n2,rfl,i,j⟩
theorem Bc {fs:List DT}(h:DT.ok (.struct fs) x):∃a,x=.agg a/\DT.PJ fs a:=by simpa only[DT.ok] using h
theorem eZ {f:DT}{fs:List DT}{a:List X}(h:DT.PJ (f::fs) a):∃y b,a=y::b/\DT.ok f y/\DT.PJ fs b:=by simpa only[DT.PJ] using h
theorem uD {a:List X}(h:DT.PJ [] a):a=[]:=by simpa only[DT.PJ] using h
theorem jE (h:DT.ok (.int .i64) x):∃n,X.cs x=[i64 n]:=by
 obtain⟨n,rfl,_⟩:=Hu h;exact⟨n,rfl⟩
theorem DO (h:DT.ok .string x):∃s,X.cs x=[bC s]:=by
 simp only[DT.ok] at h;obtain⟨s,rfl,_⟩:=h;exact⟨s,rfl⟩
theorem Iq (h:DT.ok .bool x):∃s,X.cs x=[.val (.bool s)]:=by
 simp only[DT.ok] at h;obtain⟨s,rfl⟩:=h;exact⟨s,rfl⟩
theorem JZ {g:Type}{f:g->List D}{p:g->Prop}{e:DT}(h:∀x,e.ok x->∃a,X.cs x=f a/\p a):∀{c:List X},(∀y∈c,e.ok y)->∃l:List g,X.Kr c=l.map f/\(∀a∈l,p a)/\l.length=c.length
 |[],_=>⟨[],by simp [X.Kr],(λa ha=>by cases ha),rfl⟩
 |x::c,hx=>by
  obtain⟨a,ha,hp⟩:=h x (hx x jm);obtain⟨l,i,k,j⟩:=JZ h λy m=>hx y (dH _ m);refine⟨a::l,by simp only[X.Kr,cC,ha,i],λb hb=>?_,by simp [j]⟩;rcases bV.1 hb with rfl|hb
  ·exact hp
  ·exact k b hb
theorem jF {c:Type}{f:c->List D}{p:c->Prop}{e:DT}{sz b:Nat}(hb:0<b)(k:∀x,e.ok x->∃a,X.cs x=f a/\p a)(h:DT.ok (.slice sz b e) x):∃l:List c,X.cs x=[.seq sz (l.map f)]/\(∀a∈l,p a)/\cH l.length:=by
 simp only[DT.ok] at h;obtain⟨g,rfl,o,m⟩:=h;obtain⟨l,i,j,n⟩:=JZ k m;refine⟨l,by simp only[X.cs,i],j,?_⟩;unfold cH;have:g.length * 1<=g.length * b:=Nat.mul_le_mul_left _ hb;omega
abbrev dP:DT:=.struct [.int .i64,.int .i64]
abbrev Y5:DT:=.struct [.int .i64,.slice 2 16 dP]
abbrev dOp:DT:=.struct [.int .i64,Y5,.int .i64]
abbrev dRv:DT:=.struct [.int .i64,.int .i64,.int .i64,.bool,Y5,.slice 4 48 dOp]
abbrev dSt:DT:=.struct [.int .i64,Y5,dRv,.int .i64]
abbrev dTm:DT:=.struct [.int .i64,.slice 1 8 (.int .i64),.slice 4 48 dOp,Y5,.string]
abbrev dBk:DT:=.struct [.slice 11 136 dSt,dTm]
abbrev dTy:DT:=.struct [.int .i64,.bool,.int .i64,.int .i64,.slice 1 8 (.int .i64)]
abbrev dLc:DT:=.struct [.string,.int .i64]
abbrev dBd:DT:=.struct [.string,.slice 1 16 .string,.slice 2 16 (.array 2 (.int .i64)),.slice 5 56 dTy,.slice 2 24 dLc,.int .i64,.slice 7 128 dBk]
theorem c_i (x:X)(h:DT.ok (.int .i64) x):∃n,X.cs x=iD n/\True:=by
 obtain⟨n,h⟩:=jE h;exact⟨n,h,trivial⟩
theorem c_s (x:X)(h:DT.ok .string x):∃n,X.cs x=sD n/\True:=by
 obtain⟨n,h⟩:=DO h;exact⟨n,h,trivial⟩
theorem aCb (x:X)(h:DT.ok (.array 2 (.int .i64)) x):∃p:Int×Int,X.cs x=pD p/\True:=by
 obtain⟨a,b,rfl,_,_⟩:=TK h;exact⟨(a,b),rfl,trivial⟩
theorem c_P (x:X)(h:DT.ok dP x):∃p:Int×Int,X.cs x=pD p/\True:=by
 obtain⟨l,rfl,f⟩:=Bc h;obtain⟨m,j,rfl,c,g⟩:=eZ f;obtain⟨n,k,rfl,e,i⟩:=eZ g;obtain rfl:=uD i;obtain⟨a,c⟩:=jE c;obtain⟨b,e⟩:=jE e;exact⟨(a,b),by simp only[X.cs,X.DP,c,e];rfl,trivial⟩
theorem R2 (x:X)(h:DT.ok Y5 x):∃p,X.cs x=ee p/\xN p:=by
 obtain⟨m,rfl,f⟩:=Bc h;obtain⟨n,k,rfl,c,g⟩:=eZ f;obtain⟨o,l,rfl,e,i⟩:=eZ g;obtain rfl:=uD i;obtain⟨a,c⟩:=jE c;obtain⟨b,e,_,j⟩:=jF (by decide) c_P e;exact⟨⟨a,b⟩,by simp only[X.cs,X.DP,c,e];rfl,j⟩
theorem YU (x:X)(h:DT.ok dOp x):∃p,X.cs x=db p/\yW p:=by
 obtain⟨s,rfl,i⟩:=Bc h;obtain⟨t,n,rfl,e,j⟩:=eZ i;obtain⟨u,o,rfl,f,k⟩:=eZ j;obtain⟨v,r,rfl,g,l⟩:=eZ k;obtain rfl:=uD l;obtain⟨a,e⟩:=jE e;obtain⟨b,f,m⟩:=R2 _ f;obtain⟨c,g⟩:=jE g;exact⟨⟨a,b,c⟩,by simp only[X.cs,X.DP,e,f,g];rfl,m⟩
theorem aC7 (x:X)(h:DT.ok dRv x):∃p,X.cs x=uo p/\Bb p:=by
 obtain⟨J,rfl,s⟩:=Bc h;obtain⟨K,A,rfl,g,t⟩:=eZ s;obtain⟨L,B,rfl,i,u⟩:=eZ t;obtain⟨M,E,rfl,j,v⟩:=eZ u;obtain⟨N,G,rfl,k,w⟩:=eZ v;obtain⟨P,H,rfl,l,y⟩:=eZ w;obtain⟨R,I,rfl,n,z⟩:=eZ y;obtain rfl:=uD z;obtain⟨a,g⟩:=jE g;obtain⟨b,i⟩:=jE i;obtain⟨c,j⟩:=jE j;obtain⟨d,k⟩:=Iq k;obtain⟨e,l,m⟩:=R2 _ l;obtain⟨f,n,r,o⟩:=jF (by decide) YU n;exact⟨⟨a,b,c,d,e,f⟩,by simp only[X.cs,X.DP,g,i,j,k,l,n];rfl,m,o,r⟩
theorem aC8 (x:X)(h:DT.ok dSt x):∃p,X.cs x=ji p/\PH p:=by
 obtain⟨w,rfl,j⟩:=Bc h;obtain⟨y,s,rfl,e,k⟩:=eZ j;obtain⟨z,t,rfl,f,l⟩:=eZ k;obtain⟨A,u,rfl,g,m⟩:=eZ l;obtain⟨B,v,rfl,i,n⟩:=eZ m;obtain rfl:=uD n;obtain⟨a,e⟩:=jE e;obtain⟨b,f,o⟩:=R2 _ f;obtain⟨c,g,r⟩:=aC7 _ g;obtain⟨d,i⟩:=jE i;exact⟨⟨a,b,c,d⟩,by simp only[X.cs,X.DP,e,f,g,i];rfl,o,r⟩
theorem aC9 (x:X)(h:DT.ok dTm x):∃p,X.cs x=G2 p/\Ht p:=by
 obtain⟨G,rfl,m⟩:=Bc h;obtain⟨H,y,rfl,f,n⟩:=eZ m;obtain⟨I,z,rfl,g,o⟩:=eZ n;obtain⟨J,A,rfl,i,r⟩:=eZ o;obtain⟨K,B,rfl,j,s⟩:=eZ r;obtain⟨L,E,rfl,k,t⟩:=eZ s;obtain rfl:=uD t;obtain⟨a,f⟩:=jE f;obtain⟨b,g,_,u⟩:=jF (by decide) c_i g;obtain⟨c,i,l,v⟩:=jF (by decide) YU i;obtain⟨d,j,w⟩:=R2 _ j;obtain⟨e,k⟩:=DO k;exact⟨⟨a,b,c,d,e⟩,by simp only[X.cs,X.DP,f,g,i,j,k];rfl,u,⟨v,l⟩,w⟩
theorem aC5 (x:X)(h:DT.ok dBk x):∃p,X.cs x=dM p/\TI p:=by
 obtain⟨o,rfl,g⟩:=Bc h;obtain⟨r,m,rfl,c,i⟩:=eZ g;obtain⟨s,n,rfl,e,j⟩:=eZ i;obtain rfl:=uD j;obtain⟨a,c,f,k⟩:=jF (by decide) aC8 c;obtain⟨b,e,l⟩:=aC9 _ e;exact⟨⟨a,b⟩,by simp only[X.cs,X.DP,c,e];rfl,⟨k,f⟩,l⟩
theorem aCa (x:X)(h:DT.ok dTy x):∃p,X.cs x=bS p/\cH p.ar.length:=by
 obtain⟨A,rfl,l⟩:=Bc h;obtain⟨B,u,rfl,f,m⟩:=eZ l;obtain⟨E,v,rfl,g,n⟩:=eZ m;obtain⟨G,w,rfl,i,o⟩:=eZ n;obtain⟨H,y,rfl,j,r⟩:=eZ o;obtain⟨I,z,rfl,k,s⟩:=eZ r;obtain rfl:=uD s;obtain⟨a,f⟩:=jE f;obtain⟨b,g⟩:=Iq g;obtain⟨c,i⟩:=jE i;obtain⟨d,j⟩:=jE j;obtain⟨e,k,_,t⟩:=jF (by decide) c_i k;exact⟨⟨a,b,c,d,e⟩,by simp only[X.cs,X.DP,f,g,i,j,k];rfl,t⟩
theorem aC6 (x:X)(h:DT.ok dLc x):∃p,X.cs x=eQ p/\True:=by
 obtain⟨l,rfl,f⟩:=Bc h;obtain⟨m,j,rfl,c,g⟩:=eZ f;obtain⟨n,k,rfl,e,i⟩:=eZ g;obtain rfl:=uD i;obtain⟨a,c⟩:=DO c;obtain⟨b,e⟩:=jE e;exact⟨⟨a,b⟩,by simp only[X.cs,X.DP,c,e];rfl,trivial⟩
theorem TJ (h:DT.ok (DT.struct [DT.string,DT.slice 1 16 (DT.string),DT.slice 2 16 (DT.array 2 (DT.int .i64)),DT.slice 5 56 (DT.struct [DT.int .i64,DT.bool,DT.int .i64,DT.int .i64,DT.slice 1 8 (DT.int .i64)]),DT.slice 2 24 (DT.struct [DT.string,DT.int .i64]),DT.int .i64,DT.slice 7 128 (DT.struct [DT.slice 11 136 (DT.struct [DT.int .i64,DT.struct [DT.int .i64,DT.slice 2 16 (DT.struct [DT.int .i64,DT.int .i64])],DT.struct [DT.int .i64,DT.int .i64,DT.int .i64,DT.bool,DT.struct [DT.int .i64,DT.slice 2 16 (DT.struct [DT.int .i64,DT.int .i64])],DT.slice 4 48 (DT.struct [DT.int .i64,DT.struct [DT.int .i64,DT.slice 2 16 (DT.struct [DT.int .i64,DT.int .i64])],DT.int .i64])],DT.int .i64]),DT.struct [DT.int .i64,DT.slice 1 8 (DT.int .i64),DT.slice 4 48 (DT.struct [DT.int .i64,DT.struct [DT.int .i64,DT.slice 2 16 (DT.struct [DT.int .i64,DT.int .i64])],DT.int .i64]),DT.struct [DT.int .i64,DT.slice 2 16 (DT.struct [DT.int .i64,DT.int .i64])],DT.string]])]) x):∃b,x.d=.agg (cu b)/\xM b:=by
 obtain⟨V,rfl,s⟩:=Bc (show DT.ok dBd x from h);obtain⟨Z,L,rfl,a,t⟩:=eZ s;obtain⟨y2,M,rfl,c,u⟩:=eZ t;obtain⟨y3,N,rfl,e,v⟩:=eZ u;obtain⟨y4,P,rfl,f,w⟩:=eZ v;obtain⟨y5,R,rfl,g,y⟩:=eZ w;obtain⟨y6,S,rfl,i,z⟩:=eZ y;obtain⟨y7,T,rfl,j,A⟩:=eZ z;obtain rfl:=uD A;obtain⟨k,a⟩:=DO a;obtain⟨l,c,_,G⟩:=jF (by decide) c_s c;obtain⟨m,e,_,H⟩:=jF (by decide) aCb e;obtain⟨n,f,B,I⟩:=jF (by decide) aCa f;obtain⟨o,g,_,J⟩:=jF (by decide) aC6 g;obtain⟨p,i⟩:=jE i;obtain⟨r,j,E,K⟩:=jF (by decide) aC5 j;exact⟨⟨k,l,m,n,o,p,r⟩,by simp only[X.d,X.DP,a,c,e,f,g,i,j];rfl,G,H,⟨I,B⟩,J,K,E⟩
theorem Pu {b:bn}(h:Jz b<=3000):smB b:=by
 rw[X6] at h;have n:=sT (f:=λs:ByteArray=>1+s.size) (λx=>by omega) b.rg;have o:=sT (f:=λt:bp=>1+t.ar.length) (λx=>by omega) b.ty;have p:=sT (f:=λl:mQ=>1+l.nm.size) (λx=>by omega) b.lc;have r:=sT (f:=vw) (λx=>by unfold vw;omega) b.bl;have u:sm Ww b.bl<=6 * sm vw b.bl:=by
  have e:sm Ww b.bl<=sm (λx=>6 * vw x) b.bl:=vq λx _=>Je x;rwa[BA] at e
 have v:sm (λt:bp=>t.ar.length) b.ty<=sm (λt:bp=>1+t.ar.length) b.ty:=vq λt _=>by omega
 refine⟨⟨by omega,by omega,by omega⟩,by omega,by omega,λx g=>?_,by unfold EE;omega⟩;have m:=jh (f:=vw) g;have k:=Je x;have a:=λs a=>jh (f:=yH) (x:=s) (l:=x.st) a;have j:vw x=1+x.st.length+x.tm.tg.length+x.tm.pl.pr.length+x.tm.nm.size+sm yH x.st+uZ x.tm.ar:=rfl;refine⟨by omega,λs c=>?_,by omega,Pv (by omega),by unfold Uw;omega,by omega⟩;have:=a s c;have i:yH s=s.pl.pr.length+s.rv.pl.pr.length+uZ s.rv.ar:=rfl;exact⟨by unfold Uw;omega,by unfold Uw;omega,Pv (by omega)⟩
theorem Uf (l:List UInt8)(H:aA):aN prog 13 [.seq 1 (l.map bD),.seq 1 (l.map bD)] H λd H'=>d=.val (.bool true)/\H=H':=by
 refine dO func13 ntmps13 results13 λc b Q a=>?_;refine ur a ru trivial ?_;exact⟨_,aF _,rfl⟩
theorem Tw (p:ByteArray)(b:bn):As (jR p b)=[nD (cI (jR p b)),CF (cI b) b,tV (cI b) b.bl]:=by
 unfold As;rw[AZ,NS,Ii]
theorem XM (b:bn)(p:ByteArray)(ok:xM b)(b8:cH p.size):aN prog 3 [.agg (cu b),bC p] .none λd _=>d=.val (.bool true):=by
 have ap:=λz=>Pt b z ok;have R:=λz=>Rf z aBQ;have ae:=λz=>va p z b8;have a1:=λ(h:Ts b) z=>O3 b z (Pu h.sk.tt).1;have a4:=λ(h:Ts b) z=>Re b z (Pu h.sk.tt);have ad:=Yo b .none ok;have a5:(List.map sD (cI b)).length=(cI b).length:=aS _;obtain⟨M,a8⟩:=oX (cI b);rw[<-a8] at a5 a1;unfold cu at ap a1 a4 ad ⊢;unfold bC at ae ⊢;refine dO func3 ntmps3 results3 λw0 g0 Q aB=>?_;refine t0 ?_;intro U Y O C;intro c2 b7;refine Y _ ?_;refine cm 2 b7 ?_;refine t0 ?_;intro U Y O C;refine(ap _).mono ?_;rintro d _ ⟨I,rfl⟩;rcases I with rfl|⟨rfl,ts⟩
 ·refine t0 ?_;intro U Y O C
  refine(R _).q ?_;refine u0 aB ?_;exact⟨_,aF _⟩
 have a1:=a1 ts;have a4:=a4 ts;by_cases ac:p.size<=20
 case neg=>
  have q1:=nT ((20:Int)<(p.size:Int));refine tq q1 ?_;intro U Y O C;refine(R _).q ?_;refine u0 aB ?_;exact⟨_,aF _⟩
 have q1:=nF ((20:Int)<(p.size:Int));refine tq q1 ?_;intro U Y O C;refine(ae _).q ?_;cases hI:eY p
 ·refine t0 ?_;intro U Y O C
  refine(R _).q ?_;refine u0 aB ?_;exact⟨_,aF _⟩
 refine t0 ?_;intro U Y O C;refine(a1 _).q ?_;have ba:M.length<=1000000:=by have:=Dm (Uy ts.sk ts.ch);have:=qY (vV b);rw[a8];unfold cI;omega
 refine tn a5 ?_;refine aO M.length (λi s=>s.df=[]/\s.fr 1=.val (.string p)/\s.fr 2=.rp (cu b)/\s.fr 38=.seq 1 (M.map sD)/\s.fr 39=i64 M.length/\s.fr 40=i64 i/\s.H=aA.none/\∀x∈M.take i,x.size<=200) ⟨rfl,rfl,rfl,rfl,rfl,rfl,rfl,λx hx=>by cases hx⟩ ?_;rintro i s hi ⟨a,m,l,a2,P,a3,hH,hn⟩;unfold cu at l;by_cases g:i<M.length
 case pos=>
  have B:(i:Int)<(M.length:Int):=by omega
  have J:=lT i M.length g;have hx:=aX i;have G:=aZ i;have r:(M.map sD)[i]?=some (sD M[i]):=bZ g;have w3:=wS i;simp only[sD] at r;by_cases b4:M[i].size<=200
  ·have q2:=nF ((200:Int)<(M[i].size:Int))
   refine tq (bG a2 P a3 J a5 r hx (cw G g B q2 w3)) ?_;intro U Y O C;refine⟨g,a,m,l,a2,P,rfl,hH,λx hx=>?_⟩;rw[bw g] at hx;rcases bB.1 hx with hx|hx
   ·exact hn x hx
   ·rw[bM.1 hx];exact b4
  ·have q2:=nT ((200:Int)<(M[i].size:Int))
   refine tq (bG a2 P a3 J a5 r hx (cA G g B q2)) ?_;intro U Y O C;refine(R _).q ?_;refine ur aB trivial a ?_;exact⟨_,aF _⟩
 have J:=lF i M.length;rw[bK (by omega),a8] at hn;refine tq (cw l P a3 J hH) ?_;intro U Y O C;refine(a4 _).mono ?_;rintro d z ⟨d1,d3,d4,d6,o1,o3,o4,o6,rfl,b3,g1,g3,g4,g6,m1,m3,m4⟩;have v1:=g1.cells;have v3:=g3.cells;have v4:=g4.cells;have v6:=g6.cells;simp only[D.cells] at v1 v3 v4 v6;refine tq (cw l v1 v3 v4 v6) ?_;intro U Y O C;intro w N;refine Y _ ?_;refine iz (λs=>s.df=[]/\s.fr 1=.val (.string p)/\s.fr 2=.rp (cu b)/\s.fr 7=.ep w 0 7 0 0/\uu .none w (bC b.nm) b d1 d3 d4 d6 o1 o3 o4 o6 (b.rg.map sD) (b.lc.map eQ) (b.bl.map dM) s.H) ⟨a,m,l,rfl,?_⟩ ?_
 ·have ne:∀{T:TypeId}{sz:Nat}{b5:List (List D)}{d:D}{ob:Option Nat},Gl .none T sz b5 d z ob->∀c,ob=some c->c≠w:=λhg c hc e=>by
   rcases hg with⟨h1,_⟩|⟨c',o',h1,_,_,h4⟩
   ·rw[hc] at h1;cases h1
   ·rw[hc] at h1;cases h1;rw[e,N] at h4;cases h4
  show uu _ _ _ _ _ _ _ _ _ _ _ _ _ _ _ (aA.aU _ _ _)
  exact⟨λb x h=>(by cases h),rfl,aK _ _ _,g1.new N,g3.new N,g4.new N,g6.new N,λc h=>⟨ne g1 c h,m1 c h⟩,λc h=>⟨ne g3 c h,m3 c h⟩,λc h=>⟨ne g4 c h,m4 c h⟩,λc h=>ne g6 c h⟩
 clear a m l a2 P a3 hH hi g J g1 g3 g4 g6 m1 m3 m4 b3 N z;rintro s ⟨a,m,l,j,f⟩;have v:=f.r7;have aM:=pQ s.H;have ak:=ad.look (H:=s.H) (ds:=[.agg [bC b.nm,.seq 1 (b.rg.map sD),.seq 2 (b.ol.map pD),.seq 5 (b.ty.map bS),.seq 2 (b.lc.map eQ),i64 b.ag,.seq 7 (b.bl.map dM)],.agg [bC b.nm,d1,.seq 2 (b.ol.map pD),d3,d4,i64 b.ag,d6]]) ⟨aL aM,yd ⟨aL aM,da aM f.g1,aL aM,da aM f.g3,da aM f.g4,aL aM,da aM f.g6,trivial⟩,trivial⟩;unfold cu at l;refine tq (ej l j v v1 v3 v4 v6) ?_;intro U Y O C;refine ak.q ?_;have bb:b.nm.size<=200:=hn _ (fT.2 jm);refine tq (cA m j v @bC.eq_1) ?_;intro U Y O C;refine⟨by omega,?_⟩;refine Y _ ?_;rw[cF];refine iz (λs=>s.df=[]/\s.fr 1=.val (.string p)/\s.fr 2=.rp (cu b)/\s.fr 7=.ep w 0 7 0 0/\uu .none w (bC (p++b.nm)) b d1 d3 d4 d6 o1 o3 o4 o6 (b.rg.map sD) (b.lc.map eQ) (b.bl.map dM) s.H) ⟨a,m,l,j,f.sn _⟩ ?_;clear a m l j f v aM ak;rintro s ⟨a,m,l,j,f⟩;refine bW ?_;refine nR (λs=>s.df=[]/\s.fr 1=.val (.string p)/\s.fr 2=.rp (cu b)/\s.fr 7=.ep w 0 7 0 0/\uu .none w (bC (p++b.nm)) b d1 d3 d4 d6 o1 o3 o4 o6 ((jR p b).rg.map sD) (b.lc.map eQ) (b.bl.map dM) s.H) ?_ ?_
 ·have v:=f.r7
  rcases f.g1 with⟨_,I,he⟩|⟨c,o,ho,I,S,Z⟩
  ·have e1:(jR p b).rg.map sD=b.rg.map sD:=by
    have e0:b.rg=[]:=wN.1 he;show List.map sD (b.rg.map _)=_;rw[e0];rfl
   rw[e1]
   rw[I] at v
   refine tn (av j v) ?_
   refine aO 0 (λi s=>s.df=[]/\s.fr 1=.val (.string p)/\s.fr 2=.rp (cu b)/\s.fr 7=.ep w 0 7 0 0/\s.fr 62=i64 0/\s.fr 63=i64 0/\uu .none w (bC (p++b.nm)) b d1 d3 d4 d6 o1 o3 o4 o6 (b.rg.map sD) (b.lc.map eQ) (b.bl.map dM) s.H) ⟨a,m,l,j,rfl,rfl,f⟩ ?_
   rintro i s hi ⟨a,m,l,j,t,n,f⟩
   refine tn (av t n) ?_
   exact⟨a,m,l,j,f⟩
  rw[aS] at I;rw[I] at v f;rw[ho] at f;rw[I,ho];clear S Z;refine tn (av j v) ?_;refine aO b.rg.length (λi s=>s.df=[]/\s.fr 1=.val (.string p)/\s.fr 2=.rp (cu b)/\s.fr 7=.ep w 0 7 0 0/\s.fr 62=i64 b.rg.length/\s.fr 63=i64 i/\uu .none w (bC (p++b.nm)) b (.os c o 1 0 b.rg.length) d3 d4 d6 (some c) o3 o4 o6 (oW sD (λx=>sD (p++x)) b.rg i) (b.lc.map eQ) (b.bl.map dM) s.H) ⟨a,m,l,j,rfl,rfl,by rw[Ox];exact f⟩ ?_;clear a m l j f v;rintro i s hi ⟨a,m,l,j,t,n,f⟩;by_cases g:i<b.rg.length
  case neg=>
   have J:=lF i b.rg.length;have a0:i=b.rg.length:=by omega
   subst a0;rw[Oy] at f;refine tq (bQ t n J) ?_;intro U Y O C;refine⟨a,m,l,j,?_⟩;show uu _ _ _ _ _ _ _ _ _ _ _ _ (List.map sD (b.rg.map _)) _ _ _;rw[gL];exact f
  have J:=lT i b.rg.length g;have B:(i:Int)<(b.rg.length:Int):=by omega
  have hx:=aX i;have G:=aZ i;have w3:=wS i (by have:=ts.rg;omega);have v:=f.r7;have rc:=f.g1.row.1;have r:=Hl sD (λx=>sD (p++x)) b.rg g;have u:=EA sD (λx=>sD (p++x)) b.rg g;have y:=sh sD (λx=>sD (p++x)) b.rg i;have K:=f.s1 (E:=oW sD (λx=>sD (p++x)) b.rg (i+1)) (by rw[sh,y]);have am:b.rg[i].size<=200:=hn _ (fT.2 (J5 _ (ao g)));obtain⟨E,hE⟩:=oX (oW sD (λx=>sD (p++x)) b.rg i);obtain⟨F,hF⟩:=oX (oW sD (λx=>sD (p++x)) b.rg (i+1));rw[<-hE] at rc r u y;rw[<-hF] at u K;simp only[sD,bC] at r u;refine tq (cw m j t n J) ?_;intro U Y O C;refine wE (λ_=>false) (λ_=>false) (λ_ _ _ _=>False) (λ_ _ _ _ _=>False) λU Y=>?_;have fs:=And.intro m (And.intro j (And.intro n (And.intro v (And.intro rc (And.intro y (And.intro r (And.intro hx (And.intro G (And.intro g (And.intro B u))))))))));refine uj ?_;refine nx ?_;(try clear fs);refine⟨by omega,?_⟩;refine nx ?_;refine tq (av n w3) ?_;intro U Y O C;rw[<-hF];exact⟨g,a,m,l,j,t,rfl,K⟩
 clear a m l j f;rintro s ⟨a,m,l,j,f⟩;refine bW ?_;refine nR (λs=>s.df=[]/\s.fr 1=.val (.string p)/\s.fr 2=.rp (cu b)/\s.fr 7=.ep w 0 7 0 0/\uu .none w (bC (p++b.nm)) b d1 d3 d4 d6 o1 o3 o4 o6 ((jR p b).rg.map sD) ((jR p b).lc.map eQ) (b.bl.map dM) s.H) ?_ ?_
 ·have v:=f.r7
  rcases f.g4 with⟨_,I,he⟩|⟨c,o,ho,I,S,Z⟩
  ·have e1:(jR p b).lc.map eQ=b.lc.map eQ:=by
    have e0:b.lc=[]:=wN.1 he;show List.map eQ (b.lc.map _)=_;rw[e0];rfl
   rw[e1]
   rw[I] at v
   refine tn (av j v) ?_
   refine aO 0 (λi s=>s.df=[]/\s.fr 1=.val (.string p)/\s.fr 2=.rp (cu b)/\s.fr 7=.ep w 0 7 0 0/\s.fr 80=i64 0/\s.fr 81=i64 0/\uu .none w (bC (p++b.nm)) b d1 d3 d4 d6 o1 o3 o4 o6 ((jR p b).rg.map sD) (b.lc.map eQ) (b.bl.map dM) s.H) ⟨a,m,l,j,rfl,rfl,f⟩ ?_
   rintro i s hi ⟨a,m,l,j,t,n,f⟩
   refine tn (av t n) ?_
   exact⟨a,m,l,j,f⟩
  rw[aS] at I;rw[I] at v f;rw[ho] at f;rw[I,ho];clear S Z;refine tn (av j v) ?_;refine aO b.lc.length (λi s=>s.df=[]/\s.fr 1=.val (.string p)/\s.fr 2=.rp (cu b)/\s.fr 7=.ep w 0 7 0 0/\s.fr 80=i64 b.lc.length/\s.fr 81=i64 i/\uu .none w (bC (p++b.nm)) b d1 d3 (.os c o 2 0 b.lc.length) d6 o1 o3 (some c) o6 ((jR p b).rg.map sD) (oW eQ (λx=>eQ (EW p x)) b.lc i) (b.bl.map dM) s.H) ⟨a,m,l,j,rfl,rfl,by rw[Ox];exact f⟩ ?_;clear a m l j f v;rintro i s hi ⟨a,m,l,j,t,n,f⟩;by_cases g:i<b.lc.length
  case neg=>
   have J:=lF i b.lc.length;have a0:i=b.lc.length:=by omega
   subst a0;rw[Oy] at f;refine tq (bQ t n J) ?_;intro U Y O C;refine⟨a,m,l,j,?_⟩;show uu _ _ _ _ _ _ _ _ _ _ _ _ _ (List.map eQ (b.lc.map _)) _ _;rw[gL];exact f
  have J:=lT i b.lc.length g;have B:(i:Int)<(b.lc.length:Int):=by omega
  have hx:=aX i;have G:=aZ i;have w3:=wS i (by have:=ts.lc;omega);have v:=f.r7;have rc:=f.g4.row.1;have r:=Hl eQ (λx=>eQ (EW p x)) b.lc g;have u:=EA eQ (λx=>eQ (EW p x)) b.lc g;have y:=sh eQ (λx=>eQ (EW p x)) b.lc i;have K:=f.s4 (E:=oW eQ (λx=>eQ (EW p x)) b.lc (i+1)) (by rw[sh,y]);have am:b.lc[i].nm.size<=200:=hn _ (fT.2 (J6 _ (ao g)));obtain⟨E,hE⟩:=oX (oW eQ (λx=>eQ (EW p x)) b.lc i);obtain⟨F,hF⟩:=oX (oW eQ (λx=>eQ (EW p x)) b.lc (i+1));rw[<-hE] at rc r u y;rw[<-hF] at u K;simp only[eQ,EW,bC,i64] at r u;refine tq (cw m j t n J) ?_;intro U Y O C;refine wE (λ_=>false) (λ_=>false) (λ_ _ _ _=>False) (λ_ _ _ _ _=>False) λU Y=>?_;have fs:=And.intro m (And.intro j (And.intro n (And.intro v (And.intro rc (And.intro y (And.intro r (And.intro hx (And.intro G (And.intro g (And.intro B u))))))))));refine uj ?_;refine nx ?_;(try clear fs);refine⟨by omega,?_⟩;refine nx ?_;refine tq (av n w3) ?_;intro U Y O C;rw[<-hF];exact⟨g,a,m,l,j,t,rfl,K⟩
 clear a m l j f;rintro s ⟨a,m,l,j,f⟩;refine bW ?_;refine nR (λs=>s.df=[]/\s.fr 1=.val (.string p)/\s.fr 2=.rp (cu b)/\s.fr 7=.ep w 0 7 0 0/\uu .none w (bC (p++b.nm)) b d1 d3 d4 d6 o1 o3 o4 o6 ((jR p b).rg.map sD) ((jR p b).lc.map eQ) ((jR p b).bl.map dM) s.H) ?_ ?_
 ·have v:=f.r7
  rcases f.g6 with⟨_,I,he⟩|⟨c,o,ho,I,S,Z⟩
  ·have e1:(jR p b).bl.map dM=b.bl.map dM:=by
    have e0:b.bl=[]:=wN.1 he;show List.map dM (b.bl.map _)=_;rw[e0];rfl
   rw[e1]
   rw[I] at v
   refine tn (av j v) ?_
   refine aO 0 (λi s=>s.df=[]/\s.fr 1=.val (.string p)/\s.fr 2=.rp (cu b)/\s.fr 7=.ep w 0 7 0 0/\s.fr 100=i64 0/\s.fr 101=i64 0/\uu .none w (bC (p++b.nm)) b d1 d3 d4 d6 o1 o3 o4 o6 ((jR p b).rg.map sD) ((jR p b).lc.map eQ) (b.bl.map dM) s.H) ⟨a,m,l,j,rfl,rfl,f⟩ ?_
   rintro i s hi ⟨a,m,l,j,t,n,f⟩
   refine tn (av t n) ?_
   exact⟨a,m,l,j,f⟩
  rw[aS] at I;rw[I] at v f;rw[ho] at f;rw[I,ho];clear S Z;refine tn (av j v) ?_;refine aO b.bl.length (λi s=>s.df=[]/\s.fr 1=.val (.string p)/\s.fr 2=.rp (cu b)/\s.fr 7=.ep w 0 7 0 0/\s.fr 100=i64 b.bl.length/\s.fr 101=i64 i/\uu .none w (bC (p++b.nm)) b d1 d3 d4 (.os c o 7 0 b.bl.length) o1 o3 o4 (some c) ((jR p b).rg.map sD) ((jR p b).lc.map eQ) (oW dM (λx=>dM (yX p x)) b.bl i) s.H) ⟨a,m,l,j,rfl,rfl,by rw[Ox];exact f⟩ ?_;clear a m l j f v;rintro i s hi ⟨a,m,l,j,t,n,f⟩;by_cases g:i<b.bl.length
  case neg=>
   have J:=lF i b.bl.length;have a0:i=b.bl.length:=by omega
   subst a0;rw[Oy] at f;refine tq (bQ t n J) ?_;intro U Y O C;refine⟨a,m,l,j,?_⟩;show uu _ _ _ _ _ _ _ _ _ _ _ _ _ _ (List.map dM (b.bl.map _)) _;rw[gL];exact f
  have J:=lT i b.bl.length g;have B:(i:Int)<(b.bl.length:Int):=by omega
  have hx:=aX i;have G:=aZ i;have w3:=wS i (by have:=ts.sk.bl;omega);have v:=f.r7;have rc:=f.g6.row.1;have r:=Hl dM (λx=>dM (yX p x)) b.bl g;have u:=EA dM (λx=>dM (yX p x)) b.bl g;have y:=sh dM (λx=>dM (yX p x)) b.bl i;have K:=f.s6 (E:=oW dM (λx=>dM (yX p x)) b.bl (i+1)) (by rw[sh,y]);obtain⟨E,hE⟩:=oX (oW dM (λx=>dM (yX p x)) b.bl i);obtain⟨F,hF⟩:=oX (oW dM (λx=>dM (yX p x)) b.bl (i+1));rw[<-hE] at rc r u y f;rw[<-hF] at u K;have al:=ao g;obtain⟨x,b9⟩:=oX b.bl[i];rw[<-b9] at r u al;by_cases hk:x.tm.k=3
  ·have am:x.tm.nm.size<=200:=hn _ (fT.2 (J7 _ al hk))
   have q3:(x.tm.k=3)=True:=aG hk;have e3:dM (yX p x)=[.seq 11 (x.st.map ji),i64 x.tm.k,.seq 1 (x.tm.tg.map iD),.seq 4 (x.tm.ar.map db),i64 x.tm.pl.lo,.seq 2 (x.tm.pl.pr.map pD),bC (p++x.tm.nm)]:=by
    unfold dM yX yE;rw[aD hk]
   rw[e3] at u;simp only[dM,bC,i64] at r u;refine tq (bG m j t n J v rc (ej y r hx G g B q3)) ?_;intro U Y O C;refine wE (λ_=>false) (λ_=>false) (λ_ _ _ _=>False) (λ_ _ _ _ _=>False) λU Y=>?_;have fs:=And.intro m (And.intro j (And.intro n (And.intro v (And.intro rc (And.intro y (And.intro r (And.intro hx (And.intro G (And.intro g (And.intro B u))))))))));refine uj ?_;refine nx ?_;(try clear fs);refine⟨by omega,?_⟩;refine nx ?_;refine tq (av n w3) ?_;intro U Y O C;rw[<-hF];exact⟨g,a,m,l,j,t,rfl,K⟩
  have q3:(x.tm.k=3)=False:=aI hk;have e3:yX p x=x:=by
   unfold yX yE;rw[aC hk]
  rw[e3,Ay r] at u;simp only[dM] at r;refine tq (bG m j t n J v rc (bG y r hx G g B q3 w3)) ?_;intro U Y O C;rw[<-hF,<-u];exact⟨g,a,m,l,j,t,rfl,f⟩
 clear a m l j f;rintro s ⟨a,m,l,j,f⟩;have xu:=f.cm (X:=.row 28 0 7 [cu (jR p b)]);refine Ia (aA.none.aU w (.row 28 0 7 [cu (jR p b)])) (aK _ _ _) xu.1 xu.2 ?_;obtain⟨K7,a7⟩:=oX (aA.none.aU w (.row 28 0 7 [cu (jR p b)]));have v:K7 w=some (.row 28 0 7 [cu (jR p b)]):=by rw[a7];exact aK _ _ _
 refine iz (λs=>s.df=[]/\s.fr 2=.rp (cu b)/\s.fr 7=.ep w 0 7 0 0/\s.H=K7) ⟨a,l,j,a7.symm⟩ ?_;clear a m l j f xu a7;rintro s ⟨a,l,j,hH⟩;have z1:=Uy ts.sk ts.ch;have z2:=ZX (p:=p) z1 hn hI ac;have t1:=ts.tb;have t2:=ZZ t1 hn hI ac;have aa:=λz=>Ue b z t1 z1;have ab:=λz=>Ue (jR p b) z t2 z2;have aw:=λz=>IG (As b) z (by show 3<=127;omega) (Au z1);have b0:=λz=>IG (As (jR p b)) z (by show 3<=127;omega) (Au z2);have a9:=λz=>Ua t1 z;have a6:=λz=>Ua t2 z;rw[(Uv p b).x8] at a6;have b6:(x8 b).length<=140737488351232:=by
  have h1:=yt (VP b) (pg b).length (bu (fD b));have h2:=Of b;have h3:=ts.cn;have h4:(pg b).length * bu (fD b)<=60 * 60:=kD (by omega) h3;show(qe _ _ _).length<=_;omega
 have b1:tu (As b)=[[i64 1,.seq 1 ((nD (cI b)).map bD)],[i64 2,.seq 1 ((CF (cI b) b).map bD)],[i64 3,.seq 1 ((tV (cI b) b.bl).map bD)]]:=rfl;have b2:tu (As (jR p b))=[[i64 1,.seq 1 ((nD (cI (jR p b))).map bD)],[i64 2,.seq 1 ((CF (cI b) b).map bD)],[i64 3,.seq 1 ((tV (cI b) b.bl).map bD)]]:=by rw[Tw];rfl
 rw[b1] at aw;rw[b2] at b0;clear z1 z2 t1 t2 b1 b2;generalize gz (As b)=x1 at *;generalize gz (As (jR p b))=x2 at *;generalize nD (cI (jR p b))=y2 at *;generalize jR p b=c at *;generalize x8 b=V at *;generalize CF (cI b) b=y3 at *;generalize tV (cI b) b.bl=y4 at *;unfold cu at aa ab a9 a6 v l;refine tq (cA l j hH v) ?_;intro U Y O C;refine(aa _).qs (av j v) ?_;intro U Y O C;refine(ab _).qt ?_;intro U Y O C;refine(aw _).qt ?_;intro U Y O C;refine(b0 _).qs l ?_;intro U Y O C;refine(a9 _).qs (av j v) ?_;intro U Y O C;refine(a6 _).qt ?_;intro U Y O C;have pe:=λz=>HL z V V b6;rw[ah rfl] at pe;refine dE (λ_ _ d A=>A=.none/\d=.val (.bool true)) λU Y=>?_;refine dst trivial ?_;intro U Y O C;refine⟨an λL _=>R L,?_⟩;refine nx ?_;refine dst trivial ?_;intro U Y O C;refine⟨an λL _=>Uf y3 L,?_⟩;refine nx ?_;refine dst trivial ?_;intro U Y O C;refine⟨an λL _=>Uf y4 L,?_⟩;refine nx ?_;refine dst trivial ?_;intro U Y O C;refine⟨an λL _=>pe L,?_⟩;refine nx ?_;refine dst trivial ?_;intro U Y O C;refine ur aB trivial a ?_;exact⟨_,aF _⟩
theorem yP (h:X)(v0:Value)(i:X)(g:Value)(w:World)(n:DT.ok (DT.struct [DT.string,DT.slice 1 16 (DT.string),DT.slice 2 16 (DT.array 2 (DT.int .i64)),DT.slice 5 56 (DT.struct [DT.int .i64,DT.bool,DT.int .i64,DT.int .i64,DT.slice 1 8 (DT.int .i64)]),DT.slice 2 24 (DT.struct [DT.string,DT.int .i64]),DT.int .i64,DT.slice 7 128 (DT.struct [DT.slice 11 136 (DT.struct [DT.int .i64,DT.struct [DT.int .i64,DT.slice 2 16 (DT.struct [DT.int .i64,DT.int .i64])],DT.struct [DT.int .i64,DT.int .i64,DT.int .i64,DT.bool,DT.struct [DT.int .i64,DT.slice 2 16 (DT.struct [DT.int .i64,DT.int .i64])],DT.slice 4 48 (DT.struct [DT.int .i64,DT.struct [DT.int .i64,DT.slice 2 16 (DT.struct [DT.int .i64,DT.int .i64])],DT.int .i64])],DT.int .i64]),DT.struct [DT.int .i64,DT.slice 1 8 (DT.int .i64),DT.slice 4 48 (DT.struct [DT.int .i64,DT.struct [DT.int .i64,DT.slice 2 16 (DT.struct [DT.int .i64,DT.int .i64])],DT.int .i64]),DT.struct [DT.int .i64,DT.slice 2 16 (DT.struct [DT.int .i64,DT.int .i64])],DT.string]])]) h)(c:D.is w aA.none.others h.d v0)(f:DT.ok .string i)(m:D.is w aA.none.others i.d g)(j:wW w aA.none):
  Calls prog 3 #[v0,g] w λe o=>e=.returned (.bool true)/\Below w.heap.size w o:=by
 obtain⟨a,k,b⟩:=TJ n;simp only[DT.ok] at f;obtain⟨p,rfl,l⟩:=f;rw[k] at c;exact UY (XM a p b l) ⟨_,_,rfl,c,_,_,rfl,m,rfl⟩ j
end Go.Proofs.YtffgfafbffdgaaaGreatDoor
