/- Lemmas and contracts of functions, several texts in one. -/
import Derived.Test.YtelbfbioomcmeaaGreatDoorQ11
import Derived.OpenShut
import Derived.ChangeSame
set_option maxRecDepth 100000
set_option maxHeartbeats 4000000
set_option linter.all false
namespace Go.Proofs.YtelbfbioomcmeaaGreatDoor
open Go.ChangeShapes Go.RowKit
theorem TQ (l:List (Int×Int)):∀(cs:List Value),cs.length=2 * l.length->(∀i (h:i<l.length),(cs.drop (i * 2)).take 2=[.int .i64 l[i].1,.int .i64 l[i].2])->cs=l.flatMap fun p=>[Value.int .i64 p.1,Value.int .i64 p.2]:=by
 induction l with
 |nil=>intro cs hl _;exact gP (by simpa using hl)
 |cons p l ih=>
  intro cs hl h
  have h0:=h 0 (by simp)
  rw[zZ,iY] at h0
  have hc:cs=cs.take 2++cs.drop 2:=(kV 2 cs).symm
  rw[wO,hc,h0]
  congr 1
  refine ih (cs.drop 2) (by rw[kG,hl,fN];omega) fun i hi=>?_
  have:=h (i+1) (by rw[fN];omega)
  rw[zX,show 2+i * 2=(i+1) * 2 by omega,this]
  rfl
theorem I4 {P:Program} {w:World} {t e ti:TypeId} {n hQ:Nat} {f0 f1:Field} {cs:List Value} {l:List (Int×Int)} {p:List MemPlace} (ht:P.underlying t=some (.array n e)) (he:P.underlying e=some (.struct #[f0,f1])) (hi:P.underlying ti=some (.int .i64))
  (h0:f0.type=ti/\f0.offset=0) (h1:f1.type=ti/\f1.offset=1) (ce:P.cellsOf e=2) (ct:P.cellsOf t=2 * n) (ci:P.cellsOf ti=1) (hl:l.length=n)
  (h:DataW.trod (fun _=>()) P w 0 (fun _=>true) false hQ t cs=some (.agg (l.map fun p=>.agg [.lit (.int .i64 p.1),.lit (.int .i64 p.2)]),p)):cs=l.flatMap fun p=>[Value.int .i64 p.1,Value.int .i64 p.2]:=by
 obtain⟨xs,m,_,ex,uS,hxl,FE⟩:=DataW.trod_array ht h
 have e3:(xs.map (·.1))=l.map fun p=>DataW.agg [.lit (.int .i64 p.1),.lit (.int .i64 p.2)]:=(DataW.agg.inj (Prod.mk.inj ex).1).symm
 refine TQ l cs (by rw[uS,ct,hl]) fun i hi'=>?_
 have hE:=FE i (by omega)
 rw[ce,cP (by omega)] at hE
 obtain⟨y0,y1,k,ey,eB,e0,e1⟩:=trod_struct2 he hE
 rw[h0.1,h0.2,ci,iY] at e0
 rw[h1.1,h1.2,ci] at e1
 obtain⟨z0,a0,b0,_⟩:=DataW.trod_int hi e0
 obtain⟨z1,a1,b1,_⟩:=DataW.trod_int hi e1
 have e4:(xs.map (·.1))[i]?=(l.map fun p=>(DataW.agg [.lit (.int .i64 p.1),.lit (.int .i64 p.2)]:DataW Unit))[i]?:=by rw[e3]
 rw[cR,cR,cP (by omega:i<xs.length),cP hi',ey,b0,b1] at e4
 simp only[jV,pJ,DataW.agg.injEq,List.cons.injEq,DataW.lit.injEq,Lit.int.injEq,true_and,and_true] at e4
 obtain⟨r,hr⟩:∃r,r=(cs.drop (i * 2)).take 2:=⟨_,rfl⟩
 rw[<-hr] at a0 a1 eB ⊢
 rw[ce] at eB
 match r,eB with
 |[u,v],_=>
  simp only[List.take_succ_cons,pL,List.drop_succ_cons,iY,List.cons.injEq,and_true] at a0 a1
  rw[a0,a1,e4.1,e4.2]
theorem MB {P:Program} {w:World} {n:String} {g:Nat} {cs:Array Value} (hg:P.globalNamed n=some g) (h:w.var? P n=some cs):∃t fr,w.heap[g]?=some (Obj.cells cs t fr):=by
 simp only[World.var?,hg,Option.bind_some] at h
 split at h
 ·rename_i c t fr e;injection h with h;subst h;exact⟨t,fr,e⟩
 ·cases h
end Go.Proofs.YtelbfbioomcmeaaGreatDoor

