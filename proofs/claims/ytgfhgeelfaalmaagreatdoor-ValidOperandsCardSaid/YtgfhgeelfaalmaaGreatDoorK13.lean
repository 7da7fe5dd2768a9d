/- Lemmas and contracts of functions, several texts in one: RC. -/
import Derived.Test.YtgfhgeelfaalmaaGreatDoorK11
import Derived.Test.YtgfhgeelfaalmaaGreatDoorK12
namespace Go.Proofs.YtgfhgeelfaalmaaGreatDoor
open Go.RowKit
set_option maxRecDepth 100000
set_option linter.unusedVariables false
set_option linter.unusedSimpArgs false
open Classical in
noncomputable def subX (l : List (Int × Int)) (n : Int) (ts : List TyS) (a b : Int) : Bool := if InR ts.length a ∧ InR ts.length b then subT l n ts a b else false
theorem subX_f {l : List (Int × Int)} {n : Int} {ts : List TyS} {a b : Int} (h : ¬ (InR ts.length a ∧ InR ts.length b)) : subX l n ts a b = false := if_neg h
theorem subX_t {l : List (Int × Int)} {n : Int} {ts : List TyS} {a b : Int} (ha : InR ts.length a) (hb : InR ts.length b) : subX l n ts a b = subT l n ts a b := if_pos ⟨ha, hb⟩
end Go.Proofs.YtgfhgeelfaalmaaGreatDoor
