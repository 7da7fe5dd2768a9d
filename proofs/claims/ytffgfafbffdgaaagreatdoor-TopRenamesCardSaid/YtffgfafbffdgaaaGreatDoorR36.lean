/- Lemmas and contracts of functions, several texts in one. -/
import Derived.Test.YtffgfafbffdgaaaGreatDoorR08
import Derived.OpenShut
import Derived.ChangeSame
set_option maxRecDepth 100000
set_option maxHeartbeats 4000000
set_option linter.all false
namespace Go.Proofs.YtffgfafbffdgaaaGreatDoor
open Go.ChangeShapes Go.RowKit
theorem HN (l:List (Int×Int)):∀(cs:List Value),cs.length=2 * l.length->(∀i (h:i<l.length),(cs.drop (i * 2)).take 2=[.int .i64 l[i].1,.int .i64 l[i].2])->cs=l.flatMap λp=>[Value.int .i64 p.1,Value.int .i64 p.2]:=by
 induction l with
 |nil=>intro cs hl _;exact cy (by simpa using hl)
 |cons p l c=>
  intro cs hl h
  have a:=h 0 (by simp)
  rw[rL,dj] at a
  have b:cs=cs.take 2++cs.drop 2:=(ga 2 cs).symm
  rw[lz,b,a]
  congr 1
  refine c (cs.drop 2) (by rw[gd,hl,bx];omega) λi e=>?_
  have:=h (i+1) (by rw[bx];omega)
  rw[pP,show 2+i * 2=(i+1) * 2 by omega,this]
  rfl
theorem Ae {P:Program}{w:World}{t e b:TypeId}{n g:Nat}{o s:Field}{cs:List Value}{l:List (Int×Int)}{p:List MemPlace}(ht:P.underlying t=some (.array n e)) (S:P.underlying e=some (.struct #[o,s])) (hi:P.underlying b=some (.int .i64))
  (h0:o.type=b/\o.offset=0) (h1:s.type=b/\s.offset=1) (B:P.cellsOf e=2) (L:P.cellsOf t=2 * n) (E:P.cellsOf b=1) (hl:l.length=n)
  (h:DataW.trod (λ_=>()) P w 0 (λ_=>true) false g t cs=some (.agg (l.map λp=>.agg [.lit (.int .i64 p.1),.lit (.int .i64 p.2)]),p)):cs=l.flatMap λp=>[Value.int .i64 p.1,Value.int .i64 p.2]:=by
 obtain⟨A,m,_,N,x,V,y⟩:=DataW.trod_array ht h;have M:(A.map (·.1))=l.map λp=>DataW.agg [.lit (.int .i64 p.1),.lit (.int .i64 p.2)]:=(DataW.agg.inj (Prod.mk.inj N).1).symm;refine HN l cs (by rw[x,L,hl]) λi z=>?_;have I:=y i (by omega);rw[B,az (by omega)] at I;obtain⟨Z,y1,k,R,j,G,H⟩:=trod_struct2 S I;rw[h0.1,h0.2,E,dj] at G;rw[h1.1,h1.2,E] at H;obtain⟨z0,c,J,_⟩:=DataW.trod_int hi G;obtain⟨z1,f,K,_⟩:=DataW.trod_int hi H;have a:(A.map (·.1))[i]?=(l.map λp=>(DataW.agg [.lit (.int .i64 p.1),.lit (.int .i64 p.2)]:DataW Unit))[i]?:=by rw[M]
 rw[bg,bg,az (by omega:i<A.length),az z,R,J,K] at a;simp only[gJ,iJ,DataW.agg.injEq,rI,DataW.lit.injEq,Lit.int.injEq,true_and,and_true] at a;obtain⟨r,T⟩:∃r,r=(cs.drop (i * 2)).take 2:=⟨_,rfl⟩;rw[<-T] at c f j ⊢;rw[B] at j
 match r,j with
 |[u,v],_=>
  simp only[List.take_succ_cons,gK,List.drop_succ_cons,dj,rI,and_true] at c f
  rw[c,f,a.1,a.2]
theorem Cq {P:Program}{w:World}{n:String}{g:Nat}{cs:Array Value}(hg:P.globalNamed n=some g) (h:w.var? P n=some cs):∃t fr,w.heap[g]?=some (Obj.cells cs t fr):=by
 simp only[World.var?,hg,Option.bind_some] at h;split at h
 ·rename_i c t fr e;injection h with h;subst h;exact⟨t,fr,e⟩
 ·cases h
end Go.Proofs.YtffgfafbffdgaaaGreatDoor
