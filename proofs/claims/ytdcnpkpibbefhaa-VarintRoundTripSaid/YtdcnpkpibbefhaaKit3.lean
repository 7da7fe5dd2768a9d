/- A region that draws its order, walked once in the order of the text: each operation gives one value in every world that is as w0 was below block B, and leaves such a world. -/
import Derived.Test.YtdcnpkpibbefhaaKit2
import Derived.Deep.QuietTactic
import Derived.BigQuiet
namespace Go.Proofs.Ytdcnpkpibbefhaa
open Go.RowKit
/-- The worlds that are as w0 was below block B. -/
def Lat (B : Nat) (w0 : World) : Type := {W : World // Below B w0 W}
def Lat.w {B : Nat} {w0 : World} (n : Lat B w0) : World := n.val
theorem Lat.below {B : Nat} {w0 : World} (n : Lat B w0) : Below B w0 n.w := n.property
def Lat.mk_ {B : Nat} {w0 W : World} (h : Below B w0 W) : Lat B w0 := ⟨W, h⟩
theorem Lat.mk_w {B : Nat} {w0 W : World} (h : Below B w0 W) : (Lat.mk_ h).w = W := rfl
instance (B : Nat) (w0 : World) : Nonempty (Lat B w0) := ⟨⟨w0, Below.refl _ _⟩⟩
theorem wp_region_lat {P : Program} {id : Nat} {Q : Exit → Act → World → Prop} {a : Act} {w : World} {l : List Oper} (B : Nat) (w0 : World) (hw : Below B w0 w) (hm : P.follows .mixedOrders = true) (hB : Region.lexB .any l.toArray = true)
    (h : wpQuiet P l.toArray (fun w' => ∃ n : Lat B w0, w' = n.w) (fun a' => ∀ w', (∃ n : Lat B w0, w' = n.w) → Q .normal a' w') l a) : (Code.region id l.toArray true).wp P Q a w :=
  wp_region_quiet (C := fun w' => ∃ n : Lat B w0, w' = n.w) hm hB ⟨Lat.mk_ hw.drew, rfl⟩ (by simpa using h)
/-- A call within such a region. -/
theorem lat_call {P : Program} {f : FuncId} {args : Array Value} {B : Nat} {w0 : World} {v : Value} (n : Lat B w0) (h : ∀ W, Below B w0 W → Calls P f args W fun e W' => e = .returned v ∧ Below B w0 W') :
    Calls P f args n.w fun e w'' => e = .returned v ∧ ∃ m : Lat B w0, w'' = m.w :=
  (h n.w n.below).mono fun _ _ ⟨he, hb⟩ => ⟨he, Lat.mk_ hb, rfl⟩
/-- append within the room of a block that is known whole. -/
theorem wpList_app_room {P : Program} (w : World) {ops : Array Oper} {rest : List Oper} {o : Oper} {a : Act} {Q : Exit → Act → World → Prop} (hgd : o.guard = none) (s x : Operand) (t : TypeId)
    (ho : o.op = .call { callee := .builtin .append, args := #[s, x], argTypes := #[t, t] })
    (e : TypeId) (z : Value) (bytes : Nat) (ht : P.underlying t = some (.slice e)) (hinfo : (P.info? e).map (fun i => (i.zero, i.size, i.bytes)) = some (some z, 1, bytes))
    (g n cap : Nat) (cur : List Value) (hg : Blk w g e cur.toArray) (hs : a.eval s = .slice (some ⟨g, 0, none⟩) n cap)
    (B : Nat) (A : Option Addr) (m c : Nat) (news : List Value) (hx : a.eval x = .slice A m c) (hr : Rd w B A news) (hl : news.length = m) (h1 : ∀ u ∈ news, u.oneCell' = true)
    (hroom : n + m ≤ cap) (hfit : n + m ≤ cur.length)
    (h : ∀ w', Hid (Blk w' g e (splice cur n news).toArray) → w.grownBy w' (some g) → wpList P ops Q rest (a.put o.dst (.slice (some ⟨g, 0, none⟩) (n + m) cap)) w') : wpList P ops Q (o :: rest) a w := by
  obtain ⟨i, hi, hz, hsize, hby⟩ := info_parts hinfo
  refine wpList_plain hgd fun K hK => ?_
  have hrun : ∃ w', (Builtin.append_ #[t, t] o.type #[.slice (some ⟨g, 0, none⟩) n cap, .slice A m c]).run P w = .ok (.slice (some ⟨g, 0, none⟩) (n + m) cap) w' ∧ Blk w' g e (splice cur n news).toArray ∧ w.grownBy w' (some g) := by
    rcases A with _ | ad
    · have hn : news = [] := by
        rcases news with _ | ⟨u, us⟩
        · rfl
        · obtain ⟨b, o, e', _⟩ := hr 0 u rfl
          cases e'
      subst hn
      obtain rfl : m = 0 := by simpa using hl.symm
      refine ⟨w, ?_, by simpa [splice] using hg, World.grownBy.refl w _⟩
      have hnc : n ≤ cap := by omega
      simp [Builtin.append_, run_underlying ht, sizeOf, typeInfo, hi, Builtin.lenOf, Builtin.firstCells, hnc, storeCells]
    · have hrr := run_append_room (P := P) w t o.type e i ht hi g n cap cur.toArray hg ad m c news (by rw [hsize]; omega) (fun j u hu => by
        obtain ⟨b, o, e', _, hc⟩ := hr j u hu
        cases e'
        rw [Addr.add_lit]
        exact hc) h1 hroom (by rw [hsize]; simp; omega)
      rw [hsize, Nat.mul_one] at hrr
      refine ⟨_, hrr, ?_, ⟨rfl, rfl, rfl, by simp, fun k _ hk => setRow_other w g k _ (fun e => hk (by simp [e]))⟩⟩
      have := hg.setRow_ (cur.take n ++ news ++ cur.drop (n + news.length)).toArray
      simpa [splice] using this
  obtain ⟨w', hrun, h2, h3⟩ := hrun
  unfold Oper.wp
  simp [execOp, ho, resolve, invoke, builtin, hs, hx, hrun, Result.andThen]
  exact hK _ _ (h w' h2 h3)
theorem own_some {w : World} {base : Nat} {e : TypeId} {A : Option Addr} {n c : Nat} {xs : List Value} (h : w.ownsRow base e 1 (.slice A n c) n xs) (hn : 0 < n) :
    ∃ g cur, A = some ⟨g, 0, none⟩ ∧ base ≤ g ∧ Blk w g e cur ∧ cur.toList.take n = xs ∧ n ≤ cur.size := by
  rcases h.2 with ⟨_, h0⟩ | ⟨g, cap, cur, hv, hb, hg, hnc, _, hcs, htk⟩
  · omega
  · injection hv with hA _ _
    exact ⟨g, cur, hA, hb, hg, by simpa using htk, by omega⟩
end Go.Proofs.Ytdcnpkpibbefhaa
