/- A region that draws its order, walked once in the order of the text: each operation gives one value in every world that is as w0 was below block B, and leaves such a world. -/
import Derived.Test.YtdcnpkpibbefhaaKit2
import Derived.Deep.QuietTactic
import Derived.BigQuiet
namespace Go.Proofs.Ytdcnpkpibbefhaa
open Go.RowKit
/-- The worlds that are as w0 was below block B. -/
def Lat (B : Nat) (w0 : World) : Type := {W : World // Below B w0 W}
def Lat.w {B : Nat} {w0 : World} (n : Lat B w0) : World := n.val
theorem Lat.below {B : Nat} {w0 : World} (n : Lat B w0) : Below B w0 n.w := n.property
def Lat.mk_ {B : Nat} {w0 W : World} (h : Below B w0 W) : Lat B w0 := ⟨W, h⟩
theorem Lat.mk_w {B : Nat} {w0 W : World} (h : Below B w0 W) : (Lat.mk_ h).w = W := rfl
instance (B : Nat) (w0 : World) : Nonempty (Lat B w0) := ⟨⟨w0, Below.refl _ _⟩⟩
theorem wp_region_lat {P : Program} {id : Nat} {Q : Exit → Act → World → Prop} {a : Act} {w : World} {l : List Oper} (B : Nat) (w0 : World) (hw : Below B w0 w) (hm : P.follows .mixedOrders = true) (hB : Region.lexB .any l.toArray = true)
    (h : wpQuiet P l.toArray (fun w' => ∃ n : Lat B w0, w' = n.w) (fun a' => ∀ w', (∃ n : Lat B w0, w' = n.w) → Q .normal a' w') l a) : (Code.region id l.toArray true).wp P Q a w :=
  wp_region_quiet (C := fun w' => ∃ n : Lat B w0, w' = n.w) hm hB ⟨Lat.mk_ hw.drew, rfl⟩ (by simpa using h)
/-- A call within such a region. -/
theorem lat_call {P : Program} {f : FuncId} {args : Array Value} {B : Nat} {w0 : World} {v : Value} (n : Lat B w0) (h : ∀ W, Below B w0 W → Calls P f args W fun e W' => e = .returned v ∧ Below B w0 W') :
    Calls P f args n.w fun e w'' => e = .returned v ∧ ∃ m : Lat B w0, w'' = m.w :=
  (h n.w n.below).mono fun _ _ ⟨he, hb⟩ => ⟨he, Lat.mk_ hb, rfl⟩
end Go.Proofs.Ytdcnpkpibbefhaa
