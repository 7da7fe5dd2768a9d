/- Lemmas and contracts of functions, several texts in one. -/
import Derived.Test.YtfiipaodjpiooaaGreatDoorQ14
import Derived.OpenShut
import Derived.ChangeSame
set_option maxRecDepth 100000
set_option maxHeartbeats 4000000
set_option linter.all false
namespace Go.Proofs.YtfiipaodjpiooaaGreatDoor
open Go.RowKit
theorem aLV {x:X} (h:DT.ok (.array 2 (.int .i64)) x):∃a b:Int,x=.agg [xI a,xI b]/\fU a/\fU b:=by
 simp only[DT.ok] at h
 obtain⟨xs,rfl,hxl,RK⟩:=h
 match xs,hxl,RK with
 |[y1,y2],_,RK=>
  obtain⟨n1,rfl,k1⟩:=aC0 (show DT.ok (.int .i64) y1 from by simp only[DT.ok];exact RK y1 (by simp))
  obtain⟨n2,rfl,k2⟩:=aC0 (show DT.ok (.int .i64) y2 from by simp only[DT.ok];exact RK y2 (by simp))
  exact⟨n1,n2,rfl,k1,k2⟩
theorem aEP {n:Int} (c:UInt8) (h:0<n):cE n ((c.toNat:Int).tmod n):=⟨Int.tmod_nonneg _ (by omega),Int.tmod_lt_of_pos _ h⟩
theorem UF {fs:List DT} {x:X} (h:DT.ok (.struct fs) x):∃xs,x=.agg xs/\DT.oks fs xs:=by simpa only[DT.ok] using h
theorem iZ {f:DT} {fs:List DT} {xs:List X} (h:DT.oks (f::fs) xs):∃y ys,xs=y::ys/\DT.ok f y/\DT.oks fs ys:=by simpa only[DT.oks] using h
theorem G9 {xs:List X} (h:DT.oks [] xs):xs=[]:=by simpa only[DT.oks] using h
theorem pL {x:X} (h:DT.ok (.int .i64) x):∃n,X.cs x=[i64 n]:=by
 obtain⟨n,rfl,_⟩:=aC0 h
 exact⟨n,rfl⟩
theorem XA {x:X} (h:DT.ok .string x):∃s,X.cs x=[cX s]:=by
 simp only[DT.ok] at h
 obtain⟨s,rfl,_⟩:=h
 exact⟨s,rfl⟩
theorem aDK {x:X} (h:DT.ok .bool x):∃s,X.cs x=[.val (.bool s)]:=by
 simp only[DT.ok] at h
 obtain⟨s,rfl⟩:=h
 exact⟨s,rfl⟩
theorem aDh {α:Type} {f:α->List D} {p:α->Prop} {e:DT} (h:∀x,e.ok x->∃a,X.cs x=f a/\p a):∀{xs:List X},(∀y∈xs,e.ok y)->∃l:List α,X.css xs=l.map f/\(∀a∈l,p a)/\l.length=xs.length
 |[],_=>⟨[],by simp [X.css],(fun a ha=>by cases ha),rfl⟩
 |x::xs,hx=>by
  obtain⟨a,ha,hp⟩:=h x (hx x AK)
  obtain⟨l,hl,hq,hn⟩:=aDh h fun y hy=>hx y (gY _ hy)
  refine⟨a::l,by simp only[X.css,eU,ha,hl],fun b hb=>?_,by simp [hn]⟩
  rcases dJ.1 hb with rfl|hb
  ·exact hp
  ·exact hq b hb
theorem pM {α:Type} {f:α->List D} {p:α->Prop} {e:DT} {sz uW:Nat} {x:X} (hb:0<uW) (he:∀x,e.ok x->∃a,X.cs x=f a/\p a) (h:DT.ok (.slice sz uW e) x):∃l:List α,X.cs x=[.seq sz (l.map f)]/\(∀a∈l,p a)/\dO l.length:=by
 simp only[DT.ok] at h
 obtain⟨xs,rfl,hl,hx⟩:=h
 obtain⟨l,h1,h2,h3⟩:=aDh he hx
 refine⟨l,by simp only[X.cs,h1],h2,?_⟩
 unfold dO
 have:xs.length * 1<=xs.length * uW:=Nat.mul_le_mul_left _ hb
 omega
abbrev dP:DT:=.struct [.int .i64,.int .i64]
abbrev dPl:DT:=.struct [.int .i64,.slice 2 16 dP]
abbrev dOp:DT:=.struct [.int .i64,dPl,.int .i64]
abbrev dRv:DT:=.struct [.int .i64,.int .i64,.int .i64,.bool,dPl,.slice 4 48 dOp]
abbrev dSt:DT:=.struct [.int .i64,dPl,dRv,.int .i64]
abbrev dTm:DT:=.struct [.int .i64,.slice 1 8 (.int .i64),.slice 4 48 dOp,dPl,.string]
abbrev dBk:DT:=.struct [.slice 11 136 dSt,dTm]
abbrev dTy:DT:=.struct [.int .i64,.bool,.int .i64,.int .i64,.slice 1 8 (.int .i64)]
abbrev dLc:DT:=.struct [.string,.int .i64]
abbrev dBd:DT:=.struct [.string,.slice 1 16 .string,.slice 2 16 (.array 2 (.int .i64)),.slice 5 56 dTy,.slice 2 24 dLc,.int .i64,.slice 7 128 dBk]
theorem c_i (x:X) (h:DT.ok (.int .i64) x):∃n,X.cs x=iD n/\True:=by
 obtain⟨n,h⟩:=pL h
 exact⟨n,h,trivial⟩
theorem c_s (x:X) (h:DT.ok .string x):∃n,X.cs x=sD n/\True:=by
 obtain⟨n,h⟩:=XA h
 exact⟨n,h,trivial⟩
theorem aXo (x:X) (h:DT.ok (.array 2 (.int .i64)) x):∃p:Int×Int,X.cs x=pD p/\True:=by
 obtain⟨a,b,rfl,_,_⟩:=aLV h
 exact⟨(a,b),rfl,trivial⟩
theorem c_P (x:X) (h:DT.ok dP x):∃p:Int×Int,X.cs x=pD p/\True:=by
 obtain⟨xs,rfl,g0⟩:=UF h
 obtain⟨y1,xs0,rfl,h1,g1⟩:=iZ g0
 obtain⟨y2,xs1,rfl,h2,g2⟩:=iZ g1
 obtain rfl:=G9 g2
 obtain⟨a,h1⟩:=pL h1
 obtain⟨b,h2⟩:=pL h2
 exact⟨(a,b),by simp only[X.cs,X.XB,h1,h2];rfl,trivial⟩
theorem aJd (x:X) (h:DT.ok dPl x):∃p,X.cs x=lN p/\L9 p:=by
 obtain⟨xs,rfl,g0⟩:=UF h
 obtain⟨y1,xs0,rfl,h1,g1⟩:=iZ g0
 obtain⟨y2,xs1,rfl,h2,g2⟩:=iZ g1
 obtain rfl:=G9 g2
 obtain⟨a,h1⟩:=pL h1
 obtain⟨b,h2,_,hb⟩:=pM (by decide) c_P h2
 exact⟨⟨a,b⟩,by simp only[X.cs,X.XB,h1,h2];rfl,hb⟩
theorem aPo (x:X) (h:DT.ok dOp x):∃p,X.cs x=jW p/\RW p:=by
 obtain⟨xs,rfl,g0⟩:=UF h
 obtain⟨y1,xs0,rfl,h1,g1⟩:=iZ g0
 obtain⟨y2,xs1,rfl,h2,g2⟩:=iZ g1
 obtain⟨y3,xs2,rfl,h3,g3⟩:=iZ g2
 obtain rfl:=G9 g3
 obtain⟨a,h1⟩:=pL h1
 obtain⟨b,h2,hb⟩:=aJd _ h2
 obtain⟨c,h3⟩:=pL h3
 exact⟨⟨a,b,c⟩,by simp only[X.cs,X.XB,h1,h2,h3];rfl,hb⟩
theorem aXk (x:X) (h:DT.ok dRv x):∃p,X.cs x=IM p/\UE p:=by
 obtain⟨xs,rfl,g0⟩:=UF h
 obtain⟨y1,xs0,rfl,h1,g1⟩:=iZ g0
 obtain⟨y2,xs1,rfl,h2,g2⟩:=iZ g1
 obtain⟨y3,xs2,rfl,h3,g3⟩:=iZ g2
 obtain⟨y4,xs3,rfl,h4,g4⟩:=iZ g3
 obtain⟨y5,xs4,rfl,h5,g5⟩:=iZ g4
 obtain⟨y6,xs5,rfl,h6,g6⟩:=iZ g5
 obtain rfl:=G9 g6
 obtain⟨a,h1⟩:=pL h1
 obtain⟨b,h2⟩:=pL h2
 obtain⟨c,h3⟩:=pL h3
 obtain⟨d,h4⟩:=aDK h4
 obtain⟨e,h5,h5o⟩:=aJd _ h5
 obtain⟨f,h6,h6o,h6b⟩:=pM (by decide) aPo h6
 exact⟨⟨a,b,c,d,e,f⟩,by simp only[X.cs,X.XB,h1,h2,h3,h4,h5,h6];rfl,h5o,h6b,h6o⟩
theorem aXl (x:X) (h:DT.ok dSt x):∃p,X.cs x=vV p/\aHw p:=by
 obtain⟨xs,rfl,g0⟩:=UF h
 obtain⟨y1,xs0,rfl,h1,g1⟩:=iZ g0
 obtain⟨y2,xs1,rfl,h2,g2⟩:=iZ g1
 obtain⟨y3,xs2,rfl,h3,g3⟩:=iZ g2
 obtain⟨y4,xs3,rfl,h4,g4⟩:=iZ g3
 obtain rfl:=G9 g4
 obtain⟨a,h1⟩:=pL h1
 obtain⟨b,h2,hb⟩:=aJd _ h2
 obtain⟨c,h3,hc⟩:=aXk _ h3
 obtain⟨d,h4⟩:=pL h4
 exact⟨⟨a,b,c,d⟩,by simp only[X.cs,X.XB,h1,h2,h3,h4];rfl,hb,hc⟩
theorem aXm (x:X) (h:DT.ok dTm x):∃p,X.cs x=tmD p/\aFW p:=by
 obtain⟨xs,rfl,g0⟩:=UF h
 obtain⟨y1,xs0,rfl,h1,g1⟩:=iZ g0
 obtain⟨y2,xs1,rfl,h2,g2⟩:=iZ g1
 obtain⟨y3,xs2,rfl,h3,g3⟩:=iZ g2
 obtain⟨y4,xs3,rfl,h4,g4⟩:=iZ g3
 obtain⟨y5,xs4,rfl,h5,g5⟩:=iZ g4
 obtain rfl:=G9 g5
 obtain⟨a,h1⟩:=pL h1
 obtain⟨b,h2,_,hb⟩:=pM (by decide) c_i h2
 obtain⟨c,h3,hco,hc⟩:=pM (by decide) aPo h3
 obtain⟨d,h4,hd⟩:=aJd _ h4
 obtain⟨e,h5⟩:=XA h5
 exact⟨⟨a,b,c,d,e⟩,by simp only[X.cs,X.XB,h1,h2,h3,h4,h5];rfl,hb,⟨hc,hco⟩,hd⟩
theorem aXi (x:X) (h:DT.ok dBk x):∃p,X.cs x=jP p/\aLS p:=by
 obtain⟨xs,rfl,g0⟩:=UF h
 obtain⟨y1,xs0,rfl,h1,g1⟩:=iZ g0
 obtain⟨y2,xs1,rfl,h2,g2⟩:=iZ g1
 obtain rfl:=G9 g2
 obtain⟨a,h1,hao,ha⟩:=pM (by decide) aXl h1
 obtain⟨b,h2,hb⟩:=aXm _ h2
 exact⟨⟨a,b⟩,by simp only[X.cs,X.XB,h1,h2];rfl,⟨ha,hao⟩,hb⟩
theorem aXn (x:X) (h:DT.ok dTy x):∃p,X.cs x=cP p/\dO p.ar.length:=by
 obtain⟨xs,rfl,g0⟩:=UF h
 obtain⟨y1,xs0,rfl,h1,g1⟩:=iZ g0
 obtain⟨y2,xs1,rfl,h2,g2⟩:=iZ g1
 obtain⟨y3,xs2,rfl,h3,g3⟩:=iZ g2
 obtain⟨y4,xs3,rfl,h4,g4⟩:=iZ g3
 obtain⟨y5,xs4,rfl,h5,g5⟩:=iZ g4
 obtain rfl:=G9 g5
 obtain⟨a,h1⟩:=pL h1
 obtain⟨b,h2⟩:=aDK h2
 obtain⟨c,h3⟩:=pL h3
 obtain⟨d,h4⟩:=pL h4
 obtain⟨e,h5,_,he⟩:=pM (by decide) c_i h5
 exact⟨⟨a,b,c,d,e⟩,by simp only[X.cs,X.XB,h1,h2,h3,h4,h5];rfl,he⟩
theorem aXj (x:X) (h:DT.ok dLc x):∃p,X.cs x=mN p/\True:=by
 obtain⟨xs,rfl,g0⟩:=UF h
 obtain⟨y1,xs0,rfl,h1,g1⟩:=iZ g0
 obtain⟨y2,xs1,rfl,h2,g2⟩:=iZ g1
 obtain rfl:=G9 g2
 obtain⟨a,h1⟩:=XA h1
 obtain⟨b,h2⟩:=pL h2
 exact⟨⟨a,b⟩,by simp only[X.cs,X.XB,h1,h2];rfl,trivial⟩
theorem J2 {x:X} (h:DT.ok (DT.struct [DT.string,DT.slice 1 16 (DT.string),DT.slice 2 16 (DT.array 2 (DT.int .i64)),DT.slice 5 56 (DT.struct [DT.int .i64,DT.bool,DT.int .i64,DT.int .i64,DT.slice 1 8 (DT.int .i64)]),DT.slice 2 24 (DT.struct [DT.string,DT.int .i64]),DT.int .i64,DT.slice 7 128 (DT.struct [DT.slice 11 136 (DT.struct [DT.int .i64,DT.struct [DT.int .i64,DT.slice 2 16 (DT.struct [DT.int .i64,DT.int .i64])],DT.struct [DT.int .i64,DT.int .i64,DT.int .i64,DT.bool,DT.struct [DT.int .i64,DT.slice 2 16 (DT.struct [DT.int .i64,DT.int .i64])],DT.slice 4 48 (DT.struct [DT.int .i64,DT.struct [DT.int .i64,DT.slice 2 16 (DT.struct [DT.int .i64,DT.int .i64])],DT.int .i64])],DT.int .i64]),DT.struct [DT.int .i64,DT.slice 1 8 (DT.int .i64),DT.slice 4 48 (DT.struct [DT.int .i64,DT.struct [DT.int .i64,DT.slice 2 16 (DT.struct [DT.int .i64,DT.int .i64])],DT.int .i64]),DT.struct [DT.int .i64,DT.slice 2 16 (DT.struct [DT.int .i64,DT.int .i64])],DT.string]])]) x):∃b,x.d=.agg (iS b)/\AG b:=by
 obtain⟨xs,rfl,g0⟩:=UF (show DT.ok dBd x from h)
 obtain⟨y1,xs0,rfl,h1,g1⟩:=iZ g0
 obtain⟨y2,xs1,rfl,h2,g2⟩:=iZ g1
 obtain⟨y3,xs2,rfl,h3,g3⟩:=iZ g2
 obtain⟨y4,xs3,rfl,h4,g4⟩:=iZ g3
 obtain⟨y5,xs4,rfl,h5,g5⟩:=iZ g4
 obtain⟨y6,xs5,rfl,h6,g6⟩:=iZ g5
 obtain⟨y7,xs6,rfl,h7,g7⟩:=iZ g6
 obtain rfl:=G9 g7
 obtain⟨a1,h1⟩:=XA h1
 obtain⟨a2,h2,_,k2⟩:=pM (by decide) c_s h2
 obtain⟨a3,h3,_,k3⟩:=pM (by decide) aXo h3
 obtain⟨a4,h4,j4,k4⟩:=pM (by decide) aXn h4
 obtain⟨a5,h5,_,k5⟩:=pM (by decide) aXj h5
 obtain⟨a6,h6⟩:=pL h6
 obtain⟨a7,h7,j7,k7⟩:=pM (by decide) aXi h7
 exact⟨⟨a1,a2,a3,a4,a5,a6,a7⟩,by simp only[X.d,X.XB,h1,h2,h3,h4,h5,h6,h7];rfl,k2,k3,⟨k4,j4⟩,k5,k7,j7⟩
end Go.Proofs.YtfiipaodjpiooaaGreatDoor
namespace Go.Proofs.YtfiipaodjpiooaaGreatDoor
open Go.ChangeShapes Go.RowKit
theorem aBo (l:List (Int×Int)):∀(cs:List Value),cs.length=2 * l.length->(∀i (h:i<l.length),(cs.drop (i * 2)).take 2=[.int .i64 l[i].1,.int .i64 l[i].2])->cs=l.flatMap fun p=>[Value.int .i64 p.1,Value.int .i64 p.2]:=by
 induction l with
 |nil=>intro cs hl _;exact iX (by simpa using hl)
 |cons p l ih=>
  intro cs hl h
  have h0:=h 0 (by simp)
  rw[C5,jB] at h0
  have hc:cs=cs.take 2++cs.drop 2:=(uQ 2 cs).symm
  rw[F5,hc,h0]
  congr 1
  refine ih (cs.drop 2) (by rw[nD,hl,eO];omega) fun i hi=>?_
  have:=h (i+1) (by rw[eO];omega)
  rw[zU,show 2+i * 2=(i+1) * 2 by omega,this]
  rfl
theorem mC {P:Program} {w:World} {t e ti:TypeId} {n kT:Nat} {f0 f1:Field} {cs:List Value} {l:List (Int×Int)} {p:List MemPlace} (ht:P.underlying t=some (.array n e)) (he:P.underlying e=some (.struct #[f0,f1])) (hi:P.underlying ti=some (.int .i64))
  (h0:f0.type=ti/\f0.offset=0) (h1:f1.type=ti/\f1.offset=1) (ce:P.cellsOf e=2) (ct:P.cellsOf t=2 * n) (ci:P.cellsOf ti=1) (hl:l.length=n)
  (h:DataW.trod (fun _=>()) P w 0 (fun _=>true) false kT t cs=some (.agg (l.map fun p=>.agg [.lit (.int .i64 p.1),.lit (.int .i64 p.2)]),p)):cs=l.flatMap fun p=>[Value.int .i64 p.1,Value.int .i64 p.2]:=by
 obtain⟨xs,m,_,ex,NA,hxl,DB⟩:=DataW.trod_array ht h
 have e3:(xs.map (·.1))=l.map fun p=>DataW.agg [.lit (.int .i64 p.1),.lit (.int .i64 p.2)]:=(DataW.agg.inj (Prod.mk.inj ex).1).symm
 refine aBo l cs (by rw[NA,ct,hl]) fun i hi'=>?_
 have hE:=DB i (by omega)
 rw[ce,bX (by omega)] at hE
 obtain⟨y0,y1,k,ey,fJ,e0,e1⟩:=trod_struct2 he hE
 rw[h0.1,h0.2,ci,jB] at e0
 rw[h1.1,h1.2,ci] at e1
 obtain⟨z0,a0,b0,_⟩:=DataW.trod_int hi e0
 obtain⟨z1,a1,b1,_⟩:=DataW.trod_int hi e1
 have e4:(xs.map (·.1))[i]?=(l.map fun p=>(DataW.agg [.lit (.int .i64 p.1),.lit (.int .i64 p.2)]:DataW Unit))[i]?:=by rw[e3]
 rw[dN,dN,bX (by omega:i<xs.length),bX hi',ey,b0,b1] at e4
 simp only[mG,oU,DataW.agg.injEq,F7,DataW.lit.injEq,Lit.int.injEq,true_and,and_true] at e4
 obtain⟨r,hr⟩:∃r,r=(cs.drop (i * 2)).take 2:=⟨_,rfl⟩
 rw[<-hr] at a0 a1 fJ ⊢
 rw[ce] at fJ
 match r,fJ with
 |[u,v],_=>
  simp only[List.take_succ_cons,wZ,List.drop_succ_cons,jB,F7,and_true] at a0 a1
  rw[a0,a1,e4.1,e4.2]
theorem oP {P:Program} {w:World} {n:String} {g:Nat} {cs:Array Value} (hg:P.globalNamed n=some g) (h:w.var? P n=some cs):∃t fr,w.heap[g]?=some (Obj.cells cs t fr):=by
 simp only[World.var?,hg,Option.bind_some] at h
 split at h
 ·rename_i c t fr e;injection h with h;subst h;exact⟨t,fr,e⟩
 ·cases h
end Go.Proofs.YtfiipaodjpiooaaGreatDoor

