/- Lemmas and contracts of functions, several texts in one: H4. -/
import Derived.Test.YtgfhgeelfaalmaaGreatDoorK39
import Derived.Test.YtgfhgeelfaalmaaGreatDoorK40
import Derived.Test.YtgfhgeelfaalmaaGreatDoorK28
namespace Go.Proofs.YtgfhgeelfaalmaaGreatDoor
open Go.RowKit
set_option maxRecDepth 100000
set_option linter.unusedVariables false
set_option maxRecDepth 100000
set_option linter.unusedSimpArgs false
def A1 (b : BdS) (k op rg : Int) (mu : Bool) (pl : PlS) (ar : List OpS) (t kd : Int) (H : Heap) (s : St) : Prop := s.df = [] ∧ s.fr 2 = i64 t ∧ s.fr 3 = .rp [strD b.nm, .seq 1 (b.rg.map sD), .seq 2 (b.ol.map pD), .seq 5 (b.ty.map tyD), .seq 2 (b.lc.map lcD), i64 b.ag, .seq 7 (b.bl.map bkD)] ∧ s.fr 4 = .rp [i64 k, i64 op, i64 rg, .val (.bool mu), i64 pl.lo, .seq 2 (pl.pr.map pD), .seq 4 (ar.map opD)] ∧ s.fr 8 = i64 kd ∧ s.H = H
end Go.Proofs.YtgfhgeelfaalmaaGreatDoor
