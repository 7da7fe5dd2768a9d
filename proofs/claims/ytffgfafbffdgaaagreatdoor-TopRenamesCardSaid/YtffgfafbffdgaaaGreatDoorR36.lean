/- Lemmas and contracts of functions, several texts in one. -/
import Derived.Test.YtffgfafbffdgaaaGreatDoorR08
import Derived.OpenShut
import Derived.ChangeSame
set_option maxRecDepth 100000
set_option maxHeartbeats 4000000
set_option linter.all false
namespace Go.Proofs.YtffgfafbffdgaaaGreatDoor
open Go.ChangeShapes Go.RowKit
theorem HN (l:List (Int×Int)):∀(cs:List Value),cs.length=2 * l.length->(∀i (h:i<l.length),(cs.drop (i * 2)).take 2=[.int .i64 l[i].1,.int .i64 l[i].2])->cs=l.flatMap λp=>[Value.int .i64 p.1,Value.int .i64 p.2]:=by
 induction l with
 |nil=>intro cs hl _;exact cy (by simpa using hl)
 |cons p l c=>
  intro cs hl h
  have a:=h 0 (by simp)
  rw[rL,dj] at a
  have b:cs=cs.take 2++cs.drop 2:=(ga 2 cs).symm
  rw[lz,b,a]
  congr 1
  refine c (cs.drop 2) (by rw[gd,hl,bx];omega) λi d=>?_
  have:=h (i+1) (by rw[bx];omega)
  rw[pP,show 2+i * 2=(i+1) * 2 by omega,this]
  rfl
theorem Ae {P:Program}{w:World}{t e b:TypeId}{n f:Nat}{j o:Field}{cs:List Value}{l:List (Int×Int)}{p:List MemPlace}(ht:P.underlying t=some (.array n e)) (L:P.underlying e=some (.struct #[j,o])) (hi:P.underlying b=some (.int .i64))
  (h0:j.type=b/\j.offset=0) (h1:o.type=b/\o.offset=1) (z:P.cellsOf e=2) (H:P.cellsOf t=2 * n) (A:P.cellsOf b=1) (hl:l.length=n)
  (h:DataW.trod (λ_=>()) P w 0 (λ_=>true) false f t cs=some (.agg (l.map λp=>.agg [.lit (.int .i64 p.1),.lit (.int .i64 p.2)]),p)):cs=l.flatMap λp=>[Value.int .i64 p.1,Value.int .i64 p.2]:=by
 obtain⟨y,m,_,J,q,N,s⟩:=DataW.trod_array ht h;have I:(y.map (·.1))=l.map λp=>DataW.agg [.lit (.int .i64 p.1),.lit (.int .i64 p.2)]:=(DataW.agg.inj (Prod.mk.inj J).1).symm;refine HN l cs (by rw[q,H,hl]) λi x=>?_;have E:=s i (by omega);rw[z,az (by omega)] at E;obtain⟨R,S,k,K,g,B,D⟩:=trod_struct2 L E;rw[h0.1,h0.2,A,dj] at B;rw[h1.1,h1.2,A] at D;obtain⟨T,c,F,_⟩:=DataW.trod_int hi B;obtain⟨V,d,G,_⟩:=DataW.trod_int hi D;have a:(y.map (·.1))[i]?=(l.map λp=>(DataW.agg [.lit (.int .i64 p.1),.lit (.int .i64 p.2)]:DataW Unit))[i]?:=by rw[I]
 rw[bg,bg,az (by omega:i<y.length),az x,K,F,G] at a;simp only[gJ,iJ,DataW.agg.injEq,rI,DataW.lit.injEq,Lit.int.injEq,true_and,and_true] at a;obtain⟨r,M⟩:∃r,r=(cs.drop (i * 2)).take 2:=⟨_,rfl⟩;rw[<-M] at c d g ⊢;rw[z] at g
 match r,g with
 |[u,v],_=>
  simp only[List.take_succ_cons,gK,List.drop_succ_cons,dj,rI,and_true] at c d
  rw[c,d,a.1,a.2]
theorem Cq {P:Program}{w:World}{n:String}{g:Nat}{cs:Array Value}(hg:P.globalNamed n=some g) (h:w.var? P n=some cs):∃t fr,w.heap[g]?=some (Obj.cells cs t fr):=by
 simp only[World.var?,hg,Option.bind_some] at h;split at h
 ·rename_i c t fr e;injection h with h;subst h;exact⟨t,fr,e⟩
 ·cases h
end Go.Proofs.YtffgfafbffdgaaaGreatDoor
