/- Lemmas and contracts of functions, several texts in one: Kit Kit2 L1 L2 L3 L4 L5 L6 L7 L8 L9 LA LAm LAn. -/
import Derived.WalkKit
import Derived.Lib.Hide
import Derived.Deep.Draws
import Derived.Laws.AppendOwnNone
import Derived.Maps.AppendAt
import Derived.Laws.CopyOwn
import Derived.Lib.SlBytesConst
import Derived.OrdersIn
import Derived.TacticsIn
import Derived.Laws.Cells
import Derived.Laws.MakeOwn
import Derived.Laws.Append
import Derived.Maps.Keyed
import Derived.RangeFuncRecord
namespace Go.Proofs.YtgfhgeelfaalmaaGreatDoor
open Go.RowKit
def Blk (w : World) (g : Nat) (t : TypeId) (cs : Array Value) : Prop := w.heap[g]? = some (.cells cs t (0, 0))
section
variable {w w' : World} {g : Nat} {t : TypeId} {cs : Array Value}
theorem Blk.out (h : Blk w g t cs) : w.heap[g]? = some (.cells cs t (0, 0)) := h
theorem Blk.lt (h : Blk w g t cs) : g < w.heap.size := by
  rcases Nat.lt_or_ge g w.heap.size with hlt | hge
  · exact hlt
  · unfold Blk at h; rw [Array.getElem?_eq_none hge] at h; cases h
theorem Blk.cell (h : Blk w g t cs) (i : Nat) : w.cell? ⟨g, i, none⟩ = cs[i]? := cell_of_row w g i cs t (0, 0) h
theorem Blk.frozen (h : Blk w g t cs) (i : Nat) : w.frozen? ⟨g, i, none⟩ = false := by
  unfold Blk at h
  simp [World.frozen?, h]
theorem Blk.new (w : World) (t : TypeId) (cs : Array Value) : Blk (w.alloc (.cells cs t)) w.heap.size t cs := heap_alloc_new w _
theorem Blk.drew (h : Blk w g t cs) : Blk w.drew g t cs := h
theorem Blk.alloc (h : Blk w g t cs) (o : Obj) : Blk (w.alloc o) g t cs := (Below.heap_alloc w o g h.lt).trans h
theorem Blk.grown {row : Option Nat} (h : Blk w g t cs) (hb : w.grownBy w' row) (hg : some g ≠ row) : Blk w' g t cs := (hb.block g h.lt hg).trans h
end
def Rd (w : World) (B : Nat) (A : Option Addr) (xs : List Value) : Prop :=
  ∀ j u, xs[j]? = some u → ∃ b o, A = some ⟨b, o, none⟩ ∧ b < B ∧ w.cell? ⟨b, o + j, none⟩ = some u
section
variable {w w' : World} {B B' : Nat} {A : Option Addr} {xs : List Value}
theorem Rd.keep (h : Rd w B A xs) (hk : ∀ p : Addr, p.block < B → w'.cell? p = w.cell? p) : Rd w' B A xs := fun j u hu => by
  obtain ⟨b, o, e, hb, hc⟩ := h j u hu
  exact ⟨b, o, e, hb, (hk _ hb).trans hc⟩
theorem Rd.drew (h : Rd w B A xs) : Rd w.drew B A xs := h
theorem Rd.alloc (h : Rd w B A xs) (hB : B ≤ w.heap.size) (o : Obj) : Rd (w.alloc o) B A xs := h.keep fun p hp => World.cell?_alloc_lt w o p (by omega)
theorem Rd.setCell (h : Rd w B A xs) {p : Addr} (hB : B ≤ p.block) (u : Value) : Rd (w.setCell p u) B A xs :=
  h.keep fun q hq => World.cell?_setCell_other w p q u (fun e => by subst e; omega)
theorem Rd.grown (h : Rd w B A xs) {row : Option Nat} (hg : w.grownBy w' row) (hB : B ≤ w.heap.size) (hr : ∀ g, row = some g → B ≤ g) : Rd w' B A xs :=
  h.keep fun p hp => World.cell?_of_block (hg.block p.block (by omega) (fun e => by have := hr _ e.symm; omega))
theorem Rd.nil (w : World) (B : Nat) (A : Option Addr) : Rd w B A [] := fun j u hu => by simp at hu
end
def bv (l : List UInt8) : List Value := l.map fun c => .int .u8 (c.toNat : Int)
def bstr (l : List UInt8) : ByteArray := ⟨l.toArray⟩
theorem bstr_toList (l : List UInt8) : (bstr l).data.toList = l := by simp [bstr]
theorem bstr_size (l : List UInt8) : (bstr l).size = l.length := by simp [bstr, ByteArray.size]
theorem bstr_toL (l : List UInt8) : (bstr l).toList = l := ByteArray.toList_mk l
section
variable {P : Program} (w : World)
end
theorem Rd.kept {w w' : World} {B : Nat} {A : Option Addr} {ys : List Value} {base : Nat} {e : TypeId} {v : Value} {n : Nat} {xs : List Value} (h : Rd w B A ys) (hown : w.ownsRow base e 1 v n xs) (hg : w.grownBy w' v.ownBlock) (hB : B ≤ base) (hb : base ≤ w.heap.size) : Rd w' B A ys :=
  h.grown hg (by omega) (fun g hg' => Nat.le_trans hB (hown.lt g hg').1)
theorem Rd.lit (w : World) (t : TypeId) (cs : List Value) : Rd (w.alloc (.cells cs.toArray t)) (w.heap.size + 1) (some ⟨w.heap.size, 0, none⟩) cs :=
  fun j u hu => ⟨w.heap.size, 0, rfl, by omega, by rw [Nat.zero_add, (Blk.new w t cs.toArray).cell]; simpa using hu⟩
def part (f : Nat → Value) (z : Value) (n k : Nat) : Array Value := Array.ofFn (n := n) fun i => if i.val < k then f i.val else z
theorem Rd.cut {w : World} {B : Nat} {A : Option Addr} {l : List UInt8} (h : Rd w B A (bv l)) (k : Nat) : Rd w B A (bv (l.take k)) := by
  intro j u hu
  have hd : bv (l.take k) = (bv l).take k := by simp [bv]
  rw [hd, List.getElem?_take] at hu
  split at hu
  · exact h j u hu
  · cases hu
theorem cell_lt {w : World} {a : Addr} {v : Value} (h : w.cell? a = some v) : a.block < w.heap.size := block_lt_of_cell h
set_option linter.unusedVariables false
inductive D where
  | val (v : Value)
  | seq (sz : Nat) (els : List (List D))
  | os (b o sz k n : Nat)
  | ep (b o sz i k : Nat)
  | rp (cs : List D)
  | agg (cs : List D)
  | tup (ds : List D)
  | fn (f : FuncId) (caps : List D)
  | emp
instance : Inhabited D := ⟨.val undef⟩
inductive HObj where
  | row (t : TypeId) (o sz : Nat) (els : List (List D))
  | map (m : List (Value × D))
  | hid
  | obj (o : Obj)
abbrev Heap := Nat → Option HObj
def Heap.upd (H : Heap) (b : Nat) (x : HObj) : Heap := fun c => if c = b then some x else H c
def Heap.del (H : Heap) (b : Nat) : Heap := fun c => if c = b then none else H c
def Heap.none : Heap := fun _ => Option.none
theorem Heap.upd_same (H : Heap) (b : Nat) (x : HObj) : (H.upd b x) b = some x := if_pos rfl
theorem Heap.upd_ne {H : Heap} {b c : Nat} {x : HObj} (h : c ≠ b) : (H.upd b x) c = H c := if_neg h
theorem Heap.del_same (H : Heap) (b : Nat) : (H.del b) b = Option.none := if_pos rfl
theorem Heap.del_ne {H : Heap} {b c : Nat} (h : c ≠ b) : (H.del b) c = H c := if_neg h
def Heap.le (H H' : Heap) : Prop := ∀ b x, H b = some x → H' b = some x
theorem Heap.le_refl (H : Heap) : H.le H := fun _ _ h => h
theorem Heap.le_trans {H H' H'' : Heap} (h : H.le H') (h' : H'.le H'') : H.le H'' := fun b x e => h' b x (h b x e)
theorem Heap.le_none (H : Heap) : Heap.none.le H := fun b x e => by cases e
theorem Heap.le_new {H H' : Heap} {b : Nat} {x : HObj} (h : H.le H') (hb : H' b = Option.none) : H.le (H'.upd b x) := fun c y e => by
  by_cases hc : c = b
  · subst hc; rw [h _ _ e] at hb; cases hb
  · rw [Heap.upd_ne hc]; exact h _ _ e
section
variable (w : World) (S : Nat → Prop)
mutual
def D.is : D → Value → Prop
  | .val u, v => v = u
  | .seq sz els, v => ∃ A c, v = .slice A els.length c ∧ els.length ≤ c ∧ (els = [] ∨ ∃ b o, A = some ⟨b, o, none⟩ ∧ S b ∧ b < w.heap.size ∧ rowsAt b sz o els)
  | .os b o sz k n, v => ∃ A c, v = .slice A n c ∧ n ≤ c ∧ (c = 0 ∨ (A = some ⟨b, o + k * sz, none⟩ ∧ ∃ cs t fr, w.heap[b]? = some (Obj.cells cs t fr) ∧ o + (k + c) * sz ≤ cs.size))
  | .ep b o sz i k, v => v = .pointer (some ⟨b, o + i * sz + k, none⟩)
  | .rp cs, v => ∃ b o, v = .pointer (some ⟨b, o, none⟩) ∧ S b ∧ b < w.heap.size ∧ cellsAt b o cs
  | .agg cs, v => ∃ vs, v = .agg ⟨vs⟩ ∧ cellsAll cs vs
  | .tup ds, v => ∃ vs, v = .tuple ⟨vs⟩ ∧ valsAll ds vs
  | .fn f caps, v => ∃ vs, v = .func (.func f) #[] ⟨vs⟩ ∧ valsAll caps vs
  | .emp, v => ∃ A, v = .slice A 0 0
def cellsAt (b : Nat) : Nat → List D → Prop
  | _, [] => True
  | o, d :: ds => (∃ u, w.cell? ⟨b, o, none⟩ = some u ∧ u.oneCell' = true ∧ D.is d u) ∧ cellsAt b (o + 1) ds
def rowsAt (b sz : Nat) : Nat → List (List D) → Prop
  | _, [] => True
  | o, el :: els => el.length = sz ∧ cellsAt b o el ∧ rowsAt b sz (o + sz) els
def cellsAll : List D → List Value → Prop
  | [], vs => vs = []
  | d :: ds, vs => ∃ u us, vs = u :: us ∧ u.oneCell' = true ∧ D.is d u ∧ cellsAll ds us
def valsAll : List D → List Value → Prop
  | [], vs => vs = []
  | d :: ds, vs => ∃ u us, vs = u :: us ∧ D.is d u ∧ valsAll ds us
end
end
structure Ev (H : Heap) (w : World) (H' : Heap) (w' : World) : Prop where
  os : w'.os = w.os
  tape : w'.tape = w.tape
  output : w'.output = w.output
  size : w.heap.size ≤ w'.heap.size
  keep : ∀ b : Nat, b < w.heap.size → H b = none → w'.heap[b]? = w.heap[b]? ∧ H' b = none
  shape : ∀ (b : Nat) cs t fr, w.heap[b]? = some (Obj.cells cs t fr) → ∃ cs' fr', w'.heap[b]? = some (Obj.cells cs' t fr') ∧ cs'.size = cs.size
theorem Ev.refl (H : Heap) (w : World) : Ev H w H w := ⟨rfl, rfl, rfl, Nat.le_refl _, fun _ _ h => ⟨rfl, h⟩, fun _ _ _ fr h => ⟨_, fr, h, rfl⟩⟩
theorem Ev.trans {H H' H'' : Heap} {w w' w'' : World} (h : Ev H w H' w') (h' : Ev H' w' H'' w'') : Ev H w H'' w'' where
  os := h'.os.trans h.os
  tape := h'.tape.trans h.tape
  output := h'.output.trans h.output
  size := Nat.le_trans h.size h'.size
  keep := fun b hb hn => by
    obtain ⟨h1, h2⟩ := h.keep b hb hn
    obtain ⟨h3, h4⟩ := h'.keep b (Nat.lt_of_lt_of_le hb h.size) h2
    exact ⟨h3.trans h1, h4⟩
  shape := fun b cs t fr hb => by
    obtain ⟨cs', fr', h1, h2⟩ := h.shape b cs t fr hb
    obtain ⟨cs'', fr'', h3, h4⟩ := h'.shape b cs' t fr' h1
    exact ⟨cs'', fr'', h3, h4.trans h2⟩
theorem Ev.less {H H1 H2 : Heap} {w w' : World} (h : Ev H w H1 w') (hle : H2.le H1) : Ev H w H2 w' where
  os := h.os
  tape := h.tape
  output := h.output
  size := h.size
  keep := fun b hb hn => ⟨(h.keep b hb hn).1, by
    cases e : H2 b with
    | none => rfl
    | some x => have h1 := (h.keep b hb hn).2; rw [hle _ _ e] at h1; cases h1⟩
  shape := h.shape
section
variable {w w' : World} {S S' : Nat → Prop}
structure Kept (S S' : Nat → Prop) (w w' : World) : Prop where
  size : w.heap.size ≤ w'.heap.size
  cell : ∀ b : Nat, S b → b < w.heap.size → S' b ∧ w'.heap[b]? = w.heap[b]?
  shape : ∀ (b : Nat) cs t fr, w.heap[b]? = some (Obj.cells cs t fr) → ∃ cs' fr', w'.heap[b]? = some (Obj.cells cs' t fr') ∧ cs'.size = cs.size
mutual
theorem D.is_keep (k : Kept S S' w w') : ∀ (d : D) {v : Value}, D.is w S d v → D.is w' S' d v
  | .val _, _, h => h
  | .seq sz els, v, h => by
    simp only [D.is] at h ⊢
    obtain ⟨A, c, h1, h2, h3⟩ := h
    refine ⟨A, c, h1, h2, ?_⟩
    rcases h3 with h3 | ⟨b, o, h3, h4, h5, h6⟩
    · exact .inl h3
    · exact .inr ⟨b, o, h3, (k.cell b h4 h5).1, Nat.lt_of_lt_of_le h5 k.size, rowsAt_keep k b sz h4 h5 els h6⟩
  | .os b o sz i n, v, h => by
    simp only [D.is] at h ⊢
    obtain ⟨A, c, h1, h2, h3⟩ := h
    refine ⟨A, c, h1, h2, ?_⟩
    rcases h3 with h3 | ⟨h3, cs, t, fr, h4, h5⟩
    · exact .inl h3
    · obtain ⟨cs', fr', h6, h7⟩ := k.shape b cs t fr h4
      exact .inr ⟨h3, cs', t, fr', h6, by rw [h7]; exact h5⟩
  | .ep _ _ _ _ _, _, h => h
  | .rp cs, v, h => by
    simp only [D.is] at h ⊢
    obtain ⟨b, o, h1, h2, h3, h4⟩ := h
    exact ⟨b, o, h1, (k.cell b h2 h3).1, Nat.lt_of_lt_of_le h3 k.size, cellsAt_keep k b h2 h3 cs h4⟩
  | .agg cs, v, h => by
    simp only [D.is] at h ⊢
    obtain ⟨vs, h1, h2⟩ := h
    exact ⟨vs, h1, cellsAll_keep k cs h2⟩
  | .tup ds, v, h => by
    simp only [D.is] at h ⊢
    obtain ⟨vs, h1, h2⟩ := h
    exact ⟨vs, h1, valsAll_keep k ds h2⟩
  | .fn f ds, v, h => by
    simp only [D.is] at h ⊢
    obtain ⟨vs, h1, h2⟩ := h
    exact ⟨vs, h1, valsAll_keep k ds h2⟩
  | .emp, v, h => by simp only [D.is] at h ⊢; exact h
theorem cellsAt_keep (k : Kept S S' w w') (b : Nat) (hS : S b) (hb : b < w.heap.size) : ∀ (ds : List D) {o : Nat}, cellsAt w S b o ds → cellsAt w' S' b o ds
  | [], _, _ => by simp only [cellsAt]
  | d :: ds, o, h => by
    simp only [cellsAt] at h ⊢
    obtain ⟨⟨u, h1, h2, h3⟩, h4⟩ := h
    refine ⟨⟨u, ?_, h2, D.is_keep k d h3⟩, cellsAt_keep k b hS hb ds h4⟩
    rw [← h1]
    exact World.cell?_of_block (k.cell b hS hb).2
theorem rowsAt_keep (k : Kept S S' w w') (b sz : Nat) (hS : S b) (hb : b < w.heap.size) : ∀ (els : List (List D)) {o : Nat}, rowsAt w S b sz o els → rowsAt w' S' b sz o els
  | [], _, _ => by simp only [rowsAt]
  | el :: els, o, h => by
    simp only [rowsAt] at h ⊢
    exact ⟨h.1, cellsAt_keep k b hS hb el h.2.1, rowsAt_keep k b sz hS hb els h.2.2⟩
theorem cellsAll_keep (k : Kept S S' w w') : ∀ (ds : List D) {vs : List Value}, cellsAll w S ds vs → cellsAll w' S' ds vs
  | [], _, h => by simp only [cellsAll] at h ⊢; exact h
  | d :: ds, vs, h => by
    simp only [cellsAll] at h ⊢
    obtain ⟨u, us, h1, h2, h3, h4⟩ := h
    exact ⟨u, us, h1, h2, D.is_keep k d h3, cellsAll_keep k ds h4⟩
theorem valsAll_keep (k : Kept S S' w w') : ∀ (ds : List D) {vs : List Value}, valsAll w S ds vs → valsAll w' S' ds vs
  | [], _, h => by simp only [valsAll] at h ⊢; exact h
  | d :: ds, vs, h => by
    simp only [valsAll] at h ⊢
    obtain ⟨u, us, h1, h3, h4⟩ := h
    exact ⟨u, us, h1, D.is_keep k d h3, valsAll_keep k ds h4⟩
end
end
def Heap.others (H : Heap) : Nat → Prop := fun b => H b = Option.none
theorem Ev.kept {H H' : Heap} {w w' : World} (h : Ev H w H' w') : Kept H.others H'.others w w' :=
  ⟨h.size, fun b hb hlt => ⟨(h.keep b hlt hb).2, (h.keep b hlt hb).1⟩, h.shape⟩
theorem Kept.less {H H' : Heap} (h : H'.le H) (w : World) : Kept H.others H'.others w w :=
  ⟨Nat.le_refl _, fun b hb _ => ⟨(by
    unfold Heap.others at hb ⊢
    cases e : H' b with
    | none => rfl
    | some x => rw [h _ _ e] at hb; cases hb), rfl⟩, fun _ _ _ fr h => ⟨_, fr, h, rfl⟩⟩
def Free (fr : Nat × Nat) (n : Nat) : Prop := fr.1 = fr.2 ∨ n ≤ fr.1
theorem Free.not {fr : Nat × Nat} {n : Nat} (h : Free fr n) : ∀ i, i < n → ¬ (fr.1 ≤ i ∧ i < fr.2) := fun i hi h2 => by
  rcases h with h | h <;> omega
def Stm (bs : List Nat) (clock : Nat) : Prop := (∀ b ∈ bs, b < clock) ∧ bs.Nodup
def mapAt (w : World) (S : Nat → Prop) (es : Array MapEntry) (clock : Nat) (m : List (Value × D)) : Prop :=
  es.toList.map (·.key) = m.map (·.1) ∧ valsAll w S (m.map (·.2)) (es.toList.map (·.val)) ∧ (m.map (·.1)).Nodup ∧ Stm (es.toList.map (·.born)) clock
def objAt (w : World) (H : Heap) (b : Nat) : HObj → Prop
  | .row t o sz els => ∃ cs fr, w.heap[b]? = some (Obj.cells cs t fr) ∧ Free fr cs.size ∧ o + els.length * sz ≤ cs.size ∧ rowsAt w H.others b sz o els
  | .map m => ∃ es clock, w.heap[b]? = some (Obj.map es clock) ∧ mapAt w H.others es clock m
  | .hid => b < w.heap.size
  | .obj o => w.heap[b]? = some o
def HOk (w : World) (H : Heap) : Prop := ∀ b x, H b = some x → objAt w H b x
theorem HOk.lt {w : World} {H : Heap} (h : HOk w H) {b : Nat} {x : HObj} (hb : H b = some x) : b < w.heap.size := by
  have h0 := h b x hb
  cases x with
  | row t o sz els => obtain ⟨cs, fr, h1, _⟩ := h0; exact (Array.getElem?_eq_some_iff.1 h1).1
  | map m => obtain ⟨es, c, h1, _⟩ := h0; exact (Array.getElem?_eq_some_iff.1 h1).1
  | hid => exact h0
  | obj o => exact (Array.getElem?_eq_some_iff.1 h0).1
def GLB : Nat → Option (List Value) := fun g => if g = 0 then some [.int .i64 2, .int .i64 2, .int .i64 1, .int .i64 1] else if g = 1 then some [.int .i64 2, .int .i64 2, .int .i64 2, .int .i64 2, .int .i64 2, .int .i64 2, .int .i64 2, .int .i64 1, .int .i64 2, .int .i64 1, .int .i64 1, .int .i64 1] else none
def GOk (w : World) (H : Heap) : Prop := ∀ g vs, GLB g = some vs → H g = none ∧ (∀ v ∈ vs, v.oneCell' = true) ∧ ∃ t fr, w.heap[g]? = some (Obj.cells vs.toArray t fr)
theorem GOk.ev {H H' : Heap} {w w' : World} (g : GOk w H) (h : Ev H w H' w') : GOk w' H' := fun k vs e => by
  obtain ⟨h1, h0, t, fr, h2⟩ := g k vs e
  obtain ⟨h3, h4⟩ := h.keep k (Array.getElem?_eq_some_iff.1 h2).1 h1
  exact ⟨h4, h0, t, fr, h3.trans h2⟩
theorem GOk.le {H0 H : Heap} {w : World} (g : GOk w H) (h : H0.le H) : GOk w H0 := fun k vs e => by
  obtain ⟨h1, h2⟩ := g k vs e
  refine ⟨?_, h2⟩
  cases e2 : H0 k with
  | none => rfl
  | some x => rw [h k x e2] at h1; cases h1
def FR (ro : Option Nat) : Fence := { Fence.wide with round := ro }
theorem callsIn_FR {ro : Option Nat} {n : Nat} {P : Program} {f : FuncId} {args : Array Value} {w : World} {R : Ending → World → Prop} (h : Calls P f args w R) : CallsIn (FR ro) n P f args w R :=
  (callsIn_wide (n := n)).2 h
theorem calls_of_FR {ro : Option Nat} {n : Nat} {P : Program} {f : FuncId} {args : Array Value} {w : World} {R : Ending → World → Prop} (h : CallsIn (FR ro) n P f args w R) : Calls P f args w R :=
  (callsIn_wide (n := n)).1 h
structure St where
  fr : Nat → D
  H : Heap
  df : List Deferred
def St.put (s : St) (dst : Option Tmp) (d : D) : St :=
  match dst with
  | some t => { s with fr := fun x => if x = t then d else s.fr x }
  | none => s
def D.ofV : Value → D
  | .agg cs => if cs.toList.all Value.oneCell' then .agg (cs.toList.map .val) else .val (.agg cs)
  | v => .val v
def gD (g : Nat) : D := match GLB g with
  | some vs => .rp (vs.map .val)
  | none => .val (.pointer (some ⟨g, 0, none⟩))
def St.ev (s : St) : Operand → D
  | .tmp t => s.fr t
  | .const v => D.ofV v
  | .global g => gD g
  | .func f => .fn f []
def St.withH (s : St) (H : Heap) : St := { s with H := H }
structure Cx where
  P : Program
  ro : Option Nat
  n : Nat
  H0 : Heap
  w0 : World
  gk : GOk w0 H0
structure Match (cx : Cx) (s : St) (a : Act) (w : World) : Prop where
  n : a.tmps.size = cx.n
  df : a.defers = s.df
  fr : ∀ t, D.is w s.H.others (s.fr t) (a.tmps.getD t undef)
  H : HOk w s.H
  ev : Ev cx.H0 cx.w0 s.H w
def QQ (cx : Cx) (Q : Exit → St → Prop) : Exit → Act → World → Prop := fun e a w => ∃ s, Match cx s a w ∧ Q e s
def KK (cx : Cx) (K : St → Prop) : Act → World → Prop := fun a w => ∃ s, Match cx s a w ∧ K s
def W (cx : Cx) (c : Code) (Q : Exit → St → Prop) (s : St) : Prop :=
  ∀ a w, Match cx s a w → c.wpIn (FR cx.ro) 9 cx.P (QQ cx Q) a w
def WL (cx : Cx) (ops : Array Oper) (l : List Oper) (Q : Exit → St → Prop) (s : St) : Prop :=
  ∀ a w, Match cx s a w → wpListIn (FR cx.ro) 9 cx.P ops (QQ cx Q) l a w
def NoQ : Exit → Act → World → Prop := fun _ _ _ => False
def WO (cx : Cx) (o : Oper) (K : St → Prop) (s : St) : Prop :=
  ∀ a w, Match cx s a w → o.wpIn (FR cx.ro) 9 cx.P a w (KK cx K) NoQ
theorem cellsAll_vals' {w : World} {S : Nat → Prop} : ∀ (vs : List Value), (∀ v ∈ vs, v.oneCell' = true) → cellsAll w S (vs.map .val) vs
  | [], _ => by simp [cellsAll]
  | v :: vs, h => by
    simp only [List.map_cons, cellsAll, D.is]
    exact ⟨v, vs, rfl, h v (by simp), rfl, cellsAll_vals' vs fun u hu => h u (by simp [hu])⟩
theorem D.ofV_is {w : World} {S : Nat → Prop} (v : Value) : D.is w S (D.ofV v) v := by
  cases v with
  | agg cs =>
    simp only [D.ofV]
    split
    · rename_i h
      simp only [D.is]
      exact ⟨cs.toList, by simp, cellsAll_vals' _ (fun v hv => (List.all_eq_true.1 h) v hv)⟩
    · simp only [D.is]
  | _ => simp only [D.ofV, D.is]
theorem Match.gok {cx : Cx} {s : St} {a : Act} {w : World} (m : Match cx s a w) : GOk w s.H := cx.gk.ev m.ev
theorem cellsAt_lit {w : World} {S : Nat → Prop} {b : Nat} {t : TypeId} {fr : Nat × Nat} {all : List Value} (hb : w.heap[b]? = some (Obj.cells all.toArray t fr)) : ∀ (vs : List Value) (o : Nat), all.drop o = vs → (∀ v ∈ vs, v.oneCell' = true) → cellsAt w S b o (vs.map .val)
  | [], o, _, _ => by simp [cellsAt]
  | v :: vs, o, h, h1 => by
    simp only [List.map_cons, cellsAt]
    have h0 : all[o]? = some v := by
      have := congrArg (fun l => l[0]?) h
      simpa using this
    refine ⟨⟨v, ?_, h1 v (by simp), by simp only [D.is]⟩, cellsAt_lit hb vs (o + 1) (by rw [← List.drop_drop, h]; rfl) fun u hu => h1 u (by simp [hu])⟩
    simp [World.cell?, hb, h0]
theorem gD_is {w : World} {H : Heap} (hG : GOk w H) (g : Nat) : D.is w H.others (gD g) (.pointer (some ⟨g, 0, none⟩)) := by
  unfold gD
  split
  · rename_i vs hg
    obtain ⟨h1, h0, t, fr, h2⟩ := hG g vs hg
    simp only [D.is]
    exact ⟨g, 0, rfl, h1, (Array.getElem?_eq_some_iff.1 h2).1, cellsAt_lit h2 vs 0 (by simp) h0⟩
  · simp only [D.is]
theorem Match.ev_ {cx : Cx} {s : St} {a : Act} {w : World} (m : Match cx s a w) (x : Operand) : D.is w s.H.others (s.ev x) (a.eval x) := by
  cases x with
  | tmp t => exact m.fr t
  | const v => exact D.ofV_is v
  | global g => exact gD_is m.gok g
  | func f => simp only [St.ev, Act.eval, D.is, valsAll]; exact ⟨[], rfl, rfl⟩
theorem Match.go {cx : Cx} {s : St} {a : Act} {w : World} (m : Match cx s a w) {H' : Heap} {w' : World} (h : Ev s.H w H' w') (hH : HOk w' H') : Match cx (s.withH H') a w' :=
  ⟨m.n, m.df, fun t => D.is_keep h.kept _ (m.fr t), hH, m.ev.trans h⟩
theorem HOk.less {w : World} {H H' : Heap} (hH : HOk w H) (h : H'.le H) : HOk w H' := fun b x hb => by
    have h0 := hH b x (h _ _ hb)
    cases x with
    | row t o sz els =>
      obtain ⟨cs, fr, h1, h2, h3, h4⟩ := h0
      refine ⟨cs, fr, h1, h2, h3, ?_⟩
      exact rowsAt_own h w b sz els h4
    | map mm =>
      obtain ⟨es, c, h1, h2, h3, h4⟩ := h0
      exact ⟨es, c, h1, h2, valsAll_keep (Kept.less h w) _ h3, h4⟩
    | hid => exact h0
    | obj o => exact h0
where
  cellsAt_own {H H' : Heap} (h : H'.le H) (w : World) (b : Nat) : ∀ (ds : List D) {o : Nat}, cellsAt w H.others b o ds → cellsAt w H'.others b o ds
    | [], _, _ => by simp only [cellsAt]
    | d :: ds, o, h0 => by
      simp only [cellsAt] at h0 ⊢
      obtain ⟨⟨u, h1, h2, h3⟩, h4⟩ := h0
      exact ⟨⟨u, h1, h2, D.is_keep (Kept.less h w) d h3⟩, cellsAt_own h w b ds h4⟩
  rowsAt_own {H H' : Heap} (h : H'.le H) (w : World) (b sz : Nat) : ∀ (els : List (List D)) {o : Nat}, rowsAt w H.others b sz o els → rowsAt w H'.others b sz o els
    | [], _, _ => by simp only [rowsAt]
    | el :: els, o, h0 => by
      simp only [rowsAt] at h0 ⊢
      exact ⟨h0.1, cellsAt_own h w b el h0.2.1, rowsAt_own h w b sz els h0.2.2⟩
theorem Match.less {cx : Cx} {s : St} {a : Act} {w : World} (m : Match cx s a w) {H' : Heap} (h : H'.le s.H) : Match cx (s.withH H') a w :=
  ⟨m.n, m.df, fun t => D.is_keep (Kept.less h w) _ (m.fr t), m.H.less h, m.ev.less h⟩
theorem getD_set {α : Type} (l : Array α) (i j : Nat) (x d : α) (hi : i < l.size) : (l.setIfInBounds i x).getD j d = if j = i then x else l.getD j d := by
  simp only [Array.getD_eq_getD_getElem?, Array.getElem?_setIfInBounds]
  by_cases h : j = i
  · subst h; simp [hi]
  · rw [if_neg (fun e => h e.symm), if_neg h]
theorem Match.put {cx : Cx} {s : St} {a : Act} {w : World} (m : Match cx s a w) {dst : Option Tmp} {d : D} {v : Value} (hd : ∀ t, dst = some t → t < cx.n) (h : D.is w s.H.others d v) : Match cx (s.put dst d) (a.put dst v) w := by
  cases dst with
  | none => exact m
  | some t =>
    refine ⟨by simpa [Act.put] using m.n, m.df, fun x => ?_, m.H, m.ev⟩
    have ht : t < a.tmps.size := by rw [m.n]; exact hd t rfl
    simp only [Act.put, St.put]
    rw [getD_set _ _ _ _ _ ht]
    by_cases hx : x = t
    · rw [if_pos hx, if_pos hx]; exact h
    · rw [if_neg hx, if_neg hx]; exact m.fr x
section rules
variable {cx : Cx} {Q Q' : Exit → St → Prop} {s : St}
theorem W_mono {c : Code} (h : W cx c Q s) (hq : ∀ e s, Q e s → Q' e s) : W cx c Q' s := fun a w m =>
  wpIn_mono (h a w m) fun e _ _ ⟨s', m', q⟩ => ⟨s', m', hq e s' q⟩
theorem W_less {c : Code} (H' : Heap) (h' : H'.le s.H) (h : W cx c Q (s.withH H')) : W cx c Q s := fun a w m => h a w (m.less h')
theorem W_skip (h : Q .normal s) : W cx .skip Q s := fun _ _ m => wpIn_skip ⟨s, m, h⟩
theorem W_label {l : Nat} (h : Q .normal s) : W cx (.label l) Q s := fun _ _ m => wpIn_label ⟨s, m, h⟩
theorem W_exit {id : Nat} (h : Q (.exit id) s) : W cx (.exit id) Q s := fun _ _ m => wpIn_exit ⟨s, m, h⟩
theorem W_ret (h : Q .ret s) : W cx .ret Q s := fun _ _ m => wpIn_ret ⟨s, m, h⟩
def thenQ (N : St → Prop) (Q : Exit → St → Prop) : Exit → St → Prop
  | .normal, s => N s
  | e, s => Q e s
theorem W_seq {x y : Code} (h : W cx x (thenQ (W cx y Q) Q) s) : W cx (.seq x y) Q s := fun a w m =>
  wpIn_seq (wpIn_mono (h a w m) fun e a' w' ⟨s', m', q⟩ => by
    cases e <;> first
      | exact q a' w' m'
      | exact ⟨s', m', q⟩)
def blockQ (id : Nat) (Q : Exit → St → Prop) : Exit → St → Prop
  | .exit id', s => if id' = id then Q .normal s else Q (.exit id') s
  | e, s => Q e s
theorem W_block {id : Nat} {c : Code} (h : W cx c (blockQ id Q) s) : W cx (.block id c) Q s := fun a w m =>
  wpIn_block (wpIn_mono (h a w m) fun e a' w' ⟨s', m', q⟩ => by
    cases e with
    | exit id' =>
      simp only [blockQ] at q
      simp only [Exit.inBlock]
      by_cases hid : id' = id
      · rw [if_pos hid] at q ⊢; exact ⟨s', m', q⟩
      · rw [if_neg hid] at q ⊢; exact ⟨s', m', q⟩
    | _ => exact ⟨s', m', q⟩)
theorem W_cond {c : Operand} {x y : Code} (b : Bool) (hb : s.ev c = .val (.bool b)) (ht : b = true → W cx x Q s) (hf : b = false → W cx y Q s) : W cx (.cond c x y) Q s := fun a w m => by
  have h := m.ev_ c
  rw [hb] at h
  simp only [D.is] at h
  exact wpIn_cond_split h (fun e => ht e a w m) (fun e => hf e a w m)
theorem least (p : Nat → Prop) (h : ∃ k, p k) : ∃ k, p k ∧ ∀ j, p j → k ≤ j := by
  classical
  obtain ⟨k, hk⟩ := h
  induction k using Nat.strongRecOn with
  | _ k ih =>
    by_cases h : ∃ j, j < k ∧ p j
    · obtain ⟨j, hj, hp⟩ := h
      exact ih j hj hp
    · exact ⟨k, hk, fun j hj => by
        rcases Nat.lt_or_ge j k with hlt | hge
        · exact absurd ⟨j, hlt, hj⟩ h
        · exact hge⟩
theorem W_loop {c : Code} (I : St → Prop) (μ : St → Nat) (H' : Heap) (hle : H'.le s.H) (h0 : I (s.withH H'))
    (round : ∀ s, I s → W cx c (thenQ (fun s' => ∃ H', H'.le s'.H ∧ I (s'.withH H') ∧ μ (s'.withH H') < μ s) Q) s) : W cx (.loop c) Q s := fun a w m => by
  obtain ⟨f, hf⟩ : ∃ f : Act × World → Nat, ∀ x : Act × World, (∃ s, Match cx s x.1 x.2 ∧ I s) → (∃ s, Match cx s x.1 x.2 ∧ I s ∧ μ s = f x) ∧ ∀ s, Match cx s x.1 x.2 → I s → f x ≤ μ s := by
    refine ⟨fun x => Classical.epsilon fun k => (∃ s, Match cx s x.1 x.2 ∧ I s ∧ μ s = k) ∧ ∀ s, Match cx s x.1 x.2 → I s → k ≤ μ s, fun x ⟨s, h1, h2⟩ => ?_⟩
    refine Classical.epsilon_spec (p := fun k => (∃ s, Match cx s x.1 x.2 ∧ I s ∧ μ s = k) ∧ ∀ s, Match cx s x.1 x.2 → I s → k ≤ μ s) ?_
    obtain ⟨k, h3, h4⟩ := least (fun k => ∃ s, Match cx s x.1 x.2 ∧ I s ∧ μ s = k) ⟨_, s, h1, h2, rfl⟩
    exact ⟨k, h3, fun s h5 h6 => h4 _ ⟨s, h5, h6, rfl⟩⟩
  refine wpIn_loop (fun a w => ∃ s, Match cx s a w ∧ I s) (fun a w => f (a, w)) ⟨_, m.less hle, h0⟩ ?_
  rintro a w hex
  obtain ⟨⟨s, m, hI, hμ⟩, _⟩ := hf (a, w) hex
  rw [← hμ]
  refine wpIn_mono (round s hI a w m) fun e a' w' ⟨s', m', q⟩ => ?_
  cases e with
  | normal =>
    obtain ⟨H2, h2, hI', hlt⟩ := q
    exact ⟨⟨_, m'.less h2, hI'⟩, Nat.lt_of_le_of_lt ((hf (a', w') ⟨_, m'.less h2, hI'⟩).2 _ (m'.less h2) hI') hlt⟩
  | _ => exact ⟨s', m', q⟩
theorem W_region {id : Nat} {ops : List Oper} (h : WL cx ops.toArray ops Q s) : W cx (.region id ops.toArray false) Q s := fun a w m => wpIn_region_lit (h a w m)
theorem WL_nil {ops : Array Oper} (h : Q .normal s) : WL cx ops [] Q s := fun _ _ m => ⟨s, m, h⟩
theorem WO_mono {o : Oper} {K K' : St → Prop} (h : WO cx o K s) (hk : ∀ s, K s → K' s) : WO cx o K' s := fun a w m =>
  Oper.wpIn_mono (fun _ _ ⟨s', m', q⟩ => ⟨s', m', hk s' q⟩) (h a w m)
theorem wpIn_anyQ {F : Fence} {n : Nat} {P : Program} {o : Oper} {a : Act} {w : World} {K : Act → World → Prop} {Q : Exit → Act → World → Prop} (h : o.wpIn F n P a w K NoQ) : o.wpIn F n P a w K Q := by
  unfold Oper.wpIn at *
  refine ⟨h.1, ?_⟩
  have h2 := h.2
  generalize (o.semAt F.round a.eval).run P w = r at *
  cases r with
  | ok x w' =>
    cases x <;> simp only [Oper.uponIn] at h2 ⊢ <;>
      first
        | exact h2
        | exact ⟨h2.1, CallsIn.mono h2.2 (fun e w'' he => by cases e <;> first | exact he | exact he.elim | (obtain ⟨_, _, hf⟩ := he; exact hf.elim))⟩
        | exact ⟨h2.1, RoundIn.mono h2.2 (fun e w'' he => by cases e <;> first | exact he | exact he.elim | (obtain ⟨_, _, hf⟩ := he; exact hf.elim))⟩
  | halt x w' => cases x <;> simp only [Oper.uponIn] at h2 ⊢ <;> first | exact h2 | exact h2.elim
theorem WL_cons {ops : Array Oper} {o : Oper} {rest : List Oper} (hg : o.guard = none) (h : WO cx o (WL cx ops rest Q) s) : WL cx ops (o :: rest) Q s := fun a w m => by
  refine wpListIn_plain hg fun K hK => ?_
  exact Oper.wpIn_mono (fun a' w' ⟨s', m', q⟩ => hK _ _ (q a' w' m')) (wpIn_anyQ (h a w m))
def dstOf (ops : Array Oper) (j : Nat) : Option Tmp := (ops[j]?).bind (·.dst)
theorem about_FR {ro : Option Nat} {P : Program} {o : Oper} {a : Act} {w : World} : ∀ f, o.about P w a.eval = some f → (FR ro).fn f := fun _ _ => trivial
theorem WL_guard {ops : Array Oper} {o : Oper} {rest : List Oper} {j : Nat} {want : Bool} {t : Tmp} (hg : o.guard = some (j, want)) (hj : dstOf ops j = some t) (ht : t < cx.n) (hd : ∀ t, o.dst = some t → t < cx.n)
    (h : (∃ b, s.fr t = .val (.bool b) ∧ (b = want → WO cx o (WL cx ops rest Q) s) ∧ (b = !want → WL cx ops rest Q (s.put o.dst (.val undef)))) ∨ (s.fr t = .val undef ∧ WL cx ops rest Q (s.put o.dst (.val undef)))) : WL cx ops (o :: rest) Q s := fun a w m => by
  refine wpListIn_step fun K hK => ?_
  have hy : yielded ops a.tmps j = match a.tmps[t]? with | some (.bool b) => some b | _ => none := by
    unfold yielded
    unfold dstOf at hj
    rw [hj]
    rfl
  have hta : t < a.tmps.size := by rw [m.n]; exact ht
  have hgt : a.tmps[t]? = some (a.tmps.getD t undef) := by simp [hta]
  have hf := m.fr t
  have hwt : Region.wanted o (yielded ops a.tmps) = (yielded ops a.tmps j == some want) := by unfold Region.wanted; rw [hg]
  rcases h with ⟨b, hb, h1, h2⟩ | ⟨hb, h2⟩
  · rw [hb] at hf
    simp only [D.is] at hf
    rw [hgt, hf] at hy
    simp only at hy
    rw [hy] at hwt
    by_cases e : b = want
    · subst e
      rw [if_pos (by rw [hwt]; simp)]
      exact Oper.wpIn_mono (fun a' w' ⟨s', m', q⟩ => hK _ _ (q a' w' m')) (wpIn_anyQ (h1 rfl a w m))
    · have e2 : b = !want := by cases b <;> cases want <;> first | rfl | exact absurd rfl e
      have e3 : (some b == some want) = false := by cases b <;> cases want <;> first | rfl | exact absurd rfl e
      rw [if_neg (by rw [hwt, e3]; simp)]
      refine ⟨about_FR, hK _ _ (h2 e2 _ _ (m.put hd ?_))⟩
      simp only [D.is]
  · rw [hb] at hf
    simp only [D.is] at hf
    rw [hgt, hf] at hy
    simp only [undef] at hy
    rw [hy] at hwt
    rw [if_neg (by rw [hwt]; simp)]
    refine ⟨about_FR, hK _ _ (h2 _ _ (m.put hd ?_))⟩
    simp only [D.is]
end rules
def Entr (P : Program) (f : FuncId) : Prop := ∀ (args : Array Value) (w : World), (callFunc f args).run P w = .ok (.enter f args) w
theorem ent_of {P : Program} {f : FuncId} {fn : Func} {c : Code} (hf : P.funcs[f]? = some fn) (hname : (fn.name == "runtime.NumGoroutine") = false) (hb : fn.body = some c) : Entr P f := by
  intro args w
  have h1 : fn.name ≠ "runtime.NumGoroutine" := by simpa using hname
  simp [callFunc, hf, h1, hb, mark]
def Does (P : Program) (f : FuncId) (ds : List D) (H : Heap) (K : D → Heap → Prop) : Prop :=
  Entr P f ∧ ∀ (w : World) (vs : List Value), valsAll w H.others ds vs → HOk w H → GOk w H → Calls P f vs.toArray w fun e w' => ∃ v d H', e = .returned v ∧ D.is w' H'.others d v ∧ HOk w' H' ∧ Ev H w H' w' ∧ K d H'
theorem Does.mono {P : Program} {f : FuncId} {ds : List D} {H : Heap} {K K' : D → Heap → Prop} (h : Does P f ds H K) (hk : ∀ d H', K d H' → K' d H') : Does P f ds H K' := And.intro h.1 fun w vs h1 h2 h3 =>
  (h.2 w vs h1 h2 h3).mono fun _ _ ⟨v, d, H', a, b, c, e, k⟩ => ⟨v, d, H', a, b, c, e, hk _ _ k⟩
def St.init (ds : List D) (H : Heap) : St := ⟨fun t => ds.getD t (.val undef), H, []⟩
def ResIs (cx : Cx) (fn : Func) (s : St) (K : D → Heap → Prop) : Prop :=
  ∀ a w, Match cx s a w → ∃ v d H', (results fn a.tmps).run cx.P w = .ok v w ∧ D.is w H'.others d v ∧ H'.le s.H ∧ K d H'
theorem valsAll_length {w : World} {S : Nat → Prop} : ∀ {ds : List D} {vs : List Value}, valsAll w S ds vs → vs.length = ds.length
  | [], _, h => by simp only [valsAll] at h; subst h; rfl
  | d :: ds, vs, h => by
    simp only [valsAll] at h
    obtain ⟨u, us, rfl, _, h⟩ := h
    simp [valsAll_length h]
theorem valsAll_get {w : World} {S : Nat → Prop} : ∀ {ds : List D} {vs : List Value}, valsAll w S ds vs → ∀ (j : Nat) (d : D), ds[j]? = some d → ∃ v, vs[j]? = some v ∧ D.is w S d v
  | [], _, _, j, d, hd => by simp at hd
  | d0 :: ds, vs, h, j, d, hd => by
    simp only [valsAll] at h
    obtain ⟨u, us, rfl, h1, h2⟩ := h
    cases j with
    | zero => exact ⟨u, rfl, by simp at hd; subst hd; exact h1⟩
    | succ j => simpa using valsAll_get h2 j d (by simpa using hd)
def endQ (cx : Cx) (fn : Func) (K : D → Heap → Prop) : Exit → St → Prop
  | .normal, s | .ret, s => s.df = [] ∧ ResIs cx fn s K
  | _, _ => False
theorem does_enter {P : Program} {f : FuncId} {fn : Func} {c : Code} {ds : List D} {H : Heap} {K : D → Heap → Prop} (N : Nat) (hf : P.funcs[f]? = some fn) (hname : (fn.name == "runtime.NumGoroutine") = false) (hb : fn.body = some c) (hN : fn.ntmps = N) (hl : ds.length ≤ N)
    (h : ∀ w0 (g0 : GOk w0 H), W ⟨P, none, N, H, w0, g0⟩ c (endQ ⟨P, none, N, H, w0, g0⟩ fn K) (St.init ds H)) : Does P f ds H K := And.intro (ent_of hf hname hb) fun w vs hvs hH hG => by
  refine calls_of_FR (ro := none) (n := 9) (callsIn_of_wp hf hb trivial ?_ rfl)
  have hlen := valsAll_length hvs
  have m : Match ⟨P, none, N, H, w, hG⟩ (St.init ds H) { tmps := vs.toArray ++ Array.replicate (fn.ntmps - vs.toArray.size) undef, defers := [] } w := by
    refine ⟨by simp; omega, rfl, fun t => ?_, hH, Ev.refl _ _⟩
    simp only [St.init]
    rcases Nat.lt_or_ge t ds.length with hlt | hge
    · obtain ⟨v, h1, h2⟩ := valsAll_get hvs t ds[t] (by simp [hlt])
      have e1 : ds.getD t (.val undef) = ds[t] := by simp [List.getD, hlt]
      have e2 : (vs.toArray ++ Array.replicate (fn.ntmps - vs.toArray.size) undef).getD t undef = v := by
        rw [Array.getD_eq_getD_getElem?, Array.getElem?_append_left (by simp; omega)]
        simp [h1]
      rw [e1, e2]; exact h2
    · have e1 : ds.getD t (.val undef) = .val undef := by simp [List.getD, hge]
      rw [e1]
      simp only [D.is]
      rw [Array.getD_eq_getD_getElem?, Array.getElem?_append_right (by simp; omega), Array.getElem?_replicate]
      split <;> rfl
  refine wpIn_mono (h w hG _ _ m) fun e a' w' ⟨s', m', q⟩ => ?_
  have key : s'.df = [] ∧ ResIs ⟨P, none, N, H, w, hG⟩ fn s' K → a'.defers = [] ∧ ∃ v, (results fn a'.tmps).run P w' = .ok v w' ∧ ∃ v' d H', Ending.returned v = .returned v' ∧ D.is w' H'.others d v' ∧ HOk w' H' ∧ Ev H w H' w' ∧ K d H' := by
    rintro ⟨hdf, hres⟩
    obtain ⟨v, d, H', h1, h2, h3, h4⟩ := hres a' w' m'
    have m2 := m'.less h3
    exact ⟨m'.df.trans hdf, v, h1, v, d, H', rfl, h2, m2.H, m2.ev, h4⟩
  cases e with
  | normal =>
    obtain ⟨h1, v, h2, h3⟩ := key q
    exact ⟨h1, v, h2, h3⟩
  | ret =>
    obtain ⟨h1, v, h2, h3⟩ := key q
    exact ⟨h1, v, h2, h3⟩
  | _ => exact q.elim
inductive TD where
  | int (k : IntKind)
  | bool
  | string
  | slice (e : TypeId)
  | array (n : Nat) (e : TypeId)
  | struct (fs : List (Nat × TypeId))
  | ptr (e : TypeId)
  | map (k e : TypeId)
  | other
structure Ti where
  d : TD
  size : Nat
  bytes : Nat
  zero : Option (List Value)
def tdOf : TypeDesc → TD
  | .int k => .int k
  | .bool => .bool
  | .string => .string
  | .slice e => .slice e
  | .array n e => .array n e
  | .struct fs => .struct (fs.toList.map fun f => (f.offset, f.type))
  | .pointer e => .ptr e
  | .map k e => .map k e
  | _ => .other
def tyi (P : Program) (t : TypeId) : Option Ti :=
  match P.underlying t, P.info? t with
  | some d, some i => some ⟨tdOf d, i.size, i.bytes, i.zero.map (·.cells.toList)⟩
  | _, _ => none
def TD.agg : TD → Bool
  | .array _ _ | .struct _ => true
  | _ => false
theorem tyi_spec {P : Program} {t : TypeId} {T : Ti} (h : tyi P t = some T) : ∃ d i, P.underlying t = some d ∧ P.info? t = some i ∧ T = ⟨tdOf d, i.size, i.bytes, i.zero.map (·.cells.toList)⟩ := by
  unfold tyi at h
  split at h
  · rename_i d i h1 h2
    exact ⟨d, i, h1, h2, by injection h with h; exact h.symm⟩
  · cases h
theorem run_under {P : Program} {t : TypeId} {d : TypeDesc} (h : P.underlying t = some d) (w : World) : (underlying t).run P w = .ok d w := run_underlying h w
theorem run_isAgg {P : Program} {t : TypeId} {T : Ti} (h : tyi P t = some T) (w : World) : (isAgg t).run P w = .ok T.d.agg w := by
  obtain ⟨d, i, h1, h2, rfl⟩ := tyi_spec h
  unfold isAgg
  simp only [Sem.run_bind, run_under h1, Result.andThen]
  cases d <;> rfl
theorem run_size {P : Program} {t : TypeId} {T : Ti} (h : tyi P t = some T) (w : World) : (sizeOf t).run P w = .ok T.size w := by
  obtain ⟨d, i, h1, h2, rfl⟩ := tyi_spec h
  unfold sizeOf typeInfo program
  simp [Sem.run, h2]
theorem run_info {P : Program} {t : TypeId} {T : Ti} (h : tyi P t = some T) (w : World) : ∃ i, (typeInfo t).run P w = .ok i w ∧ T.size = i.size ∧ T.bytes = i.bytes ∧ T.zero = i.zero.map (·.cells.toList) ∧ P.info? t = some i := by
  obtain ⟨d, i, h1, h2, rfl⟩ := tyi_spec h
  refine ⟨i, ?_, rfl, rfl, rfl, h2⟩
  unfold typeInfo program
  simp [Sem.run, h2]
section
variable {w : World} {S : Nat → Prop}
theorem cellsAll_length : ∀ {cs : List D} {vs : List Value}, cellsAll w S cs vs → vs.length = cs.length
  | [], _, h => by simp only [cellsAll] at h; subst h; rfl
  | d :: ds, vs, h => by
    simp only [cellsAll] at h
    obtain ⟨u, us, rfl, _, _, h⟩ := h
    simp [cellsAll_length h]
theorem cellsAll_one : ∀ {cs : List D} {vs : List Value}, cellsAll w S cs vs → ∀ v ∈ vs, v.oneCell' = true
  | [], _, h, v, hv => by simp only [cellsAll] at h; subst h; cases hv
  | d :: ds, vs, h, v, hv => by
    simp only [cellsAll] at h
    obtain ⟨u, us, rfl, h1, _, h⟩ := h
    rcases List.mem_cons.1 hv with rfl | hv
    · exact h1
    · exact cellsAll_one h v hv
theorem cellsAll_append : ∀ {cs ds : List D} {vs us : List Value}, cellsAll w S cs vs → cellsAll w S ds us → cellsAll w S (cs ++ ds) (vs ++ us)
  | [], ds, vs, us, h, h' => by simp only [cellsAll] at h; subst h; exact h'
  | d :: cs, ds, vs, us, h, h' => by
    simp only [cellsAll] at h
    obtain ⟨u, us', rfl, h1, h2, h⟩ := h
    simp only [List.cons_append, cellsAll]
    exact ⟨u, _, rfl, h1, h2, cellsAll_append h h'⟩
theorem cellsAll_drop : ∀ {cs : List D} {vs : List Value} (k : Nat), cellsAll w S cs vs → cellsAll w S (cs.drop k) (vs.drop k)
  | cs, vs, 0, h => h
  | [], vs, k + 1, h => by simp only [cellsAll] at h; subst h; simp [cellsAll]
  | d :: cs, vs, k + 1, h => by
    simp only [cellsAll] at h
    obtain ⟨u, us', rfl, h1, h2, h⟩ := h
    exact cellsAll_drop k h
theorem cellsAll_take : ∀ {cs : List D} {vs : List Value} (k : Nat), cellsAll w S cs vs → cellsAll w S (cs.take k) (vs.take k)
  | cs, vs, 0, h => by simp [cellsAll]
  | [], vs, k + 1, h => by simp only [cellsAll] at h; subst h; simp [cellsAll]
  | d :: cs, vs, k + 1, h => by
    simp only [cellsAll] at h
    obtain ⟨u, us', rfl, h1, h2, h⟩ := h
    simp only [List.take_succ_cons, cellsAll]
    exact ⟨u, _, rfl, h1, h2, cellsAll_take k h⟩
theorem cellsAll_get : ∀ {cs : List D} {vs : List Value}, cellsAll w S cs vs → ∀ (j : Nat) (d : D), cs[j]? = some d → ∃ v, vs[j]? = some v ∧ v.oneCell' = true ∧ D.is w S d v
  | [], _, _, j, d, hd => by simp at hd
  | d0 :: ds, vs, h, j, d, hd => by
    simp only [cellsAll] at h
    obtain ⟨u, us, rfl, h1, h2, h3⟩ := h
    cases j with
    | zero => exact ⟨u, rfl, h1, by simp at hd; subst hd; exact h2⟩
    | succ j => simpa using cellsAll_get h3 j d (by simpa using hd)
theorem cellsAll_vals : ∀ (vs : List Value), (∀ v ∈ vs, v.oneCell' = true) → cellsAll w S (vs.map .val) vs
  | [], _ => by simp [cellsAll]
  | v :: vs, h => by
    simp only [List.map_cons, cellsAll, D.is]
    exact ⟨v, vs, rfl, h v (by simp), rfl, cellsAll_vals vs fun u hu => h u (by simp [hu])⟩
theorem cellsAt_vals {b : Nat} : ∀ {cs : List D} {o : Nat}, cellsAt w S b o cs → ∃ vs, cellsAll w S cs vs ∧ ∀ (j : Nat) (v : Value), vs[j]? = some v → w.cell? ⟨b, o + j, none⟩ = some v
  | [], _, _ => ⟨[], by simp [cellsAll], fun j v h => by simp at h⟩
  | d :: ds, o, h => by
    simp only [cellsAt] at h
    obtain ⟨⟨u, h1, h2, h3⟩, h4⟩ := h
    obtain ⟨vs, h5, h6⟩ := cellsAt_vals h4
    refine ⟨u :: vs, by simp only [cellsAll]; exact ⟨u, vs, rfl, h2, h3, h5⟩, fun j v hj => ?_⟩
    cases j with
    | zero => simp at hj; subst hj; exact h1
    | succ j => rw [show o + (j + 1) = o + 1 + j by omega]; exact h6 j v (by simpa using hj)
theorem cellsAt_of {b : Nat} : ∀ {cs : List D} {o : Nat} {vs : List Value}, cellsAll w S cs vs → (∀ (j : Nat) (v : Value), vs[j]? = some v → w.cell? ⟨b, o + j, none⟩ = some v) → cellsAt w S b o cs
  | [], _, _, _, _ => by simp only [cellsAt]
  | d :: ds, o, vs, h, hc => by
    simp only [cellsAll] at h
    obtain ⟨u, us, rfl, h1, h2, h3⟩ := h
    simp only [cellsAt]
    exact ⟨⟨u, by simpa using hc 0 u rfl, h1, h2⟩, cellsAt_of h3 fun j v hj => by
      have := hc (j + 1) v (by simpa using hj)
      rwa [show o + (j + 1) = o + 1 + j by omega] at this⟩
theorem cellsAt_drop {b o : Nat} {cs : List D} (h : cellsAt w S b o cs) (k : Nat) : cellsAt w S b (o + k) (cs.drop k) := by
  obtain ⟨vs, h1, h2⟩ := cellsAt_vals h
  refine cellsAt_of (cellsAll_drop k h1) fun j v hj => ?_
  rw [show o + k + j = o + (k + j) by omega]
  exact h2 _ v (by simpa [List.getElem?_drop] using hj)
theorem cellsAt_take {b o : Nat} {cs : List D} (h : cellsAt w S b o cs) (k : Nat) : cellsAt w S b o (cs.take k) := by
  obtain ⟨vs, h1, h2⟩ := cellsAt_vals h
  refine cellsAt_of (cellsAll_take k h1) fun j v hj => ?_
  refine h2 j v ?_
  rw [List.getElem?_take] at hj
  split at hj
  · exact hj
  · cases hj
theorem rowsAt_get {b sz : Nat} : ∀ {els : List (List D)} {o : Nat}, rowsAt w S b sz o els → ∀ (i : Nat) (el : List D), els[i]? = some el → el.length = sz ∧ cellsAt w S b (o + i * sz) el
  | [], _, _, i, el, h => by simp at h
  | e :: els, o, h, i, el, hi => by
    simp only [rowsAt] at h
    cases i with
    | zero => simp at hi; subst hi; simpa using ⟨h.1, h.2.1⟩
    | succ i =>
      have := rowsAt_get h.2.2 i el (by simpa using hi)
      rw [show o + (i + 1) * sz = o + sz + i * sz by rw [Nat.add_mul]; omega]
      exact this
theorem rowsAt_of {b sz : Nat} : ∀ {els : List (List D)} {o : Nat}, (∀ (i : Nat) (el : List D), els[i]? = some el → el.length = sz ∧ cellsAt w S b (o + i * sz) el) → rowsAt w S b sz o els
  | [], _, _ => by simp only [rowsAt]
  | e :: els, o, h => by
    simp only [rowsAt]
    have h0 := h 0 e rfl
    refine ⟨h0.1, by simpa using h0.2, rowsAt_of fun i el hi => ?_⟩
    have := h (i + 1) el (by simpa using hi)
    rwa [show o + (i + 1) * sz = o + sz + i * sz by rw [Nat.add_mul]; omega] at this
theorem rowsAt_drop {b sz o : Nat} {els : List (List D)} (h : rowsAt w S b sz o els) (k : Nat) : rowsAt w S b sz (o + k * sz) (els.drop k) :=
  rowsAt_of fun i el hi => by
    have := rowsAt_get h (k + i) el (by simpa [List.getElem?_drop] using hi)
    rwa [show o + k * sz + i * sz = o + (k + i) * sz by rw [Nat.add_mul]; omega]
theorem rowsAt_take {b sz o : Nat} {els : List (List D)} (h : rowsAt w S b sz o els) (k : Nat) : rowsAt w S b sz o (els.take k) :=
  rowsAt_of fun i el hi => by
    rw [List.getElem?_take] at hi
    split at hi
    · exact rowsAt_get h i el hi
    · cases hi
end
theorem run_storeCells_spec {P : Program} (b : Nat) (t : TypeId) (fr : Nat × Nat) : ∀ (vs : List Value) (o i : Nat) (w : World) (cs : Array Value), w.heap[b]? = some (Obj.cells cs t fr) → Free fr cs.size → o + i + vs.length ≤ cs.size → (∀ v ∈ vs, v.oneCell' = true) →
    ∃ w', (storeCells ⟨b, o, none⟩ vs i).run P w = .ok () w' ∧ w'.os = w.os ∧ w'.tape = w.tape ∧ w'.output = w.output ∧ w'.heap.size = w.heap.size ∧ (∀ c, c ≠ b → w'.heap[c]? = w.heap[c]?) ∧
      ∃ cs', w'.heap[b]? = some (Obj.cells cs' t fr) ∧ cs'.size = cs.size ∧ (∀ j v, vs[j]? = some v → cs'[o + i + j]? = some v) ∧ ∀ j, (j < o + i ∨ o + i + vs.length ≤ j) → cs'[j]? = cs[j]?
  | [], o, i, w, cs, hb, _, _, _ => ⟨w, rfl, rfl, rfl, rfl, rfl, fun _ _ => rfl, cs, hb, rfl, fun j v h => by simp at h, fun _ _ => rfl⟩
  | v :: vs, o, i, w, cs, hb, hfr, hlen, h1 => by
    have hlt : o + i < cs.size := by simp at hlen; omega
    have hadd : (⟨b, o, none⟩ : Addr).add i = ⟨b, o + i, none⟩ := Addr.add_lit _ _ _
    have hcell : w.cell? ⟨b, o + i, none⟩ = some cs[o + i] := by
      rw [cell_of_row w b (o + i) cs t fr hb]; simp [hlt]
    have hfz : w.frozen? ⟨b, o + i, none⟩ = false := by
      have := hfr.not (o + i) hlt
      simp only [World.frozen?, hb]
      simpa using fun h => Nat.le_of_not_lt (fun h2 => this ⟨h, h2⟩)
    have hset : (w.setCell ⟨b, o + i, none⟩ v).heap[b]? = some (Obj.cells (cs.setIfInBounds (o + i) v) t fr) := by
      simp [World.setCell, Array.getElem?_modify, hb]
    obtain ⟨w', h2, e1, e2, e3, e4, h3, cs', h4, h5, h6, h7⟩ := run_storeCells_spec b t fr vs o (i + 1) (w.setCell ⟨b, o + i, none⟩ v) _ hset (by simpa using hfr) (by simp at hlen ⊢; omega) (fun u hu => h1 u (by simp [hu]))
    refine ⟨w', ?_, e1, e2, e3, by simpa [World.setCell] using e4, fun c hc => (h3 c hc).trans (Below.heap_setCell w _ v c hc), cs', h4, by simpa using h5, ?_, ?_⟩
    · simp only [storeCells, Sem.run_bind, hadd, run_store P w _ v _ (h1 v (by simp)), hcell, hfz]
      exact h2
    · intro j u hj
      cases j with
      | zero =>
        simp at hj
        subst hj
        rw [Nat.add_zero, h7 (o + i) (by omega)]
        simp [hlt]
      | succ j => rw [show o + i + (j + 1) = o + (i + 1) + j by omega]; exact h6 j u (by simpa using hj)
    · intro j hj
      rw [h7 j (by simp at hj ⊢; omega)]
      rw [Array.getElem?_setIfInBounds]
      rw [if_neg (by simp at hj; omega)]
def D.cells : D → Option (List D)
  | .agg cs => some cs
  | .val (.agg _) | .val (.tuple _) | .tup _ => none
  | d => some [d]
theorem D.cells_is {w : World} {S : Nat → Prop} {d : D} {v : Value} {cs : List D} (h : D.is w S d v) (hc : d.cells = some cs) : cellsAll w S cs v.cells.toList := by
  have one : ∀ {d : D} {v : Value}, D.is w S d v → v.oneCell' = true → cellsAll w S [d] v.cells.toList := fun {d v} h h1 => by
    have : v.cells = #[v] := by cases v <;> first | rfl | cases h1
    rw [this]
    simp only [cellsAll]
    exact ⟨v, [], rfl, h1, h, rfl⟩
  cases d with
  | agg ds =>
    simp only [D.cells] at hc
    injection hc with hc
    subst hc
    simp only [D.is] at h
    obtain ⟨vs, rfl, h⟩ := h
    exact h
  | val u =>
    have e : v = u := by simpa only [D.is] using h
    subst e
    cases v <;> simp only [D.cells] at hc <;> first | (injection hc with hc; subst hc; exact one h rfl) | cases hc
  | tup ds => simp only [D.cells] at hc; cases hc
  | seq sz els =>
    simp only [D.cells] at hc
    injection hc with hc
    subst hc
    have h' := h
    simp only [D.is] at h'
    obtain ⟨A, c, rfl, _⟩ := h'
    exact one h rfl
  | os b o sz k n =>
    simp only [D.cells] at hc
    injection hc with hc
    subst hc
    have h' := h
    simp only [D.is] at h'
    obtain ⟨A, c, rfl, _⟩ := h'
    exact one h rfl
  | ep b o sz i k =>
    simp only [D.cells] at hc
    injection hc with hc
    subst hc
    have h' := h
    simp only [D.is] at h'
    subst h'
    exact one h rfl
  | rp cs =>
    simp only [D.cells] at hc
    injection hc with hc
    subst hc
    have h' := h
    simp only [D.is] at h'
    obtain ⟨b, o, rfl, _⟩ := h'
    exact one h rfl
  | fn f cs =>
    simp only [D.cells] at hc
    injection hc with hc
    subst hc
    have h' := h
    simp only [D.is] at h'
    obtain ⟨vs, rfl, _⟩ := h'
    exact one h rfl
  | emp =>
    simp only [D.cells] at hc
    injection hc with hc
    subst hc
    have h' := h
    simp only [D.is] at h'
    obtain ⟨A, rfl⟩ := h'
    exact one h rfl
theorem ev_alloc {H : Heap} {w : World} (o : Obj) (x : HObj) (hH : HOk w H) : Ev H w (H.upd w.heap.size x) (w.alloc o) where
  os := rfl
  tape := rfl
  output := rfl
  size := by simp
  keep := fun b hb hn => ⟨Below.heap_alloc w o b hb, by rw [Heap.upd_ne (by omega)]; exact hn⟩
  shape := fun b cs t fr hb => ⟨cs, fr, by rw [Below.heap_alloc w o b (Array.getElem?_eq_some_iff.1 hb).1]; exact hb, rfl⟩
theorem fresh_none {H : Heap} {w : World} (hH : HOk w H) : H w.heap.size = none := by
  cases e : H w.heap.size with
  | none => rfl
  | some x => exact absurd (hH.lt e) (by omega)
theorem Ev.objAt {H H' : Heap} {w w' : World} (h : Ev H w H' w') {b : Nat} {x : HObj} (hb : w'.heap[b]? = w.heap[b]?) (hx : objAt w H b x) : objAt w' H' b x := by
  cases x with
  | row t o sz els =>
    obtain ⟨cs, fr, h1, h2, h3, h4⟩ := hx
    refine ⟨cs, fr, hb.trans h1, h2, h3, rowsAt_of fun i el hi => ?_⟩
    obtain ⟨h5, h6⟩ := rowsAt_get h4 i el hi
    refine ⟨h5, ?_⟩
    obtain ⟨vs, h7, h8⟩ := cellsAt_vals h6
    refine cellsAt_of (cellsAll_keep h.kept el h7) fun j v hj => ?_
    rw [← h8 j v hj]
    exact World.cell?_of_block hb
  | map m =>
    obtain ⟨es, c, h1, h2, h3, h4⟩ := hx
    exact ⟨es, c, hb.trans h1, h2, valsAll_keep h.kept _ h3, h4⟩
  | hid => exact Nat.lt_of_lt_of_le hx h.size
  | obj o => exact hb.trans hx
theorem HOk.alloc {H : Heap} {w : World} (hH : HOk w H) {o : Obj} {x : HObj} (hx : objAt (w.alloc o) (H.upd w.heap.size x) w.heap.size x) : HOk (w.alloc o) (H.upd w.heap.size x) := fun b y hb => by
  by_cases e : b = w.heap.size
  · subst e
    rw [Heap.upd_same] at hb
    injection hb with hb
    subst hb
    exact hx
  · rw [Heap.upd_ne e] at hb
    exact (ev_alloc o x hH).objAt (Below.heap_alloc w o b (hH.lt hb)) (hH b y hb)
theorem free0 (n : Nat) : Free (0, 0) n := .inl rfl
theorem row_alloc {H : Heap} {w : World} (hH : HOk w H) (t : TypeId) (sz : Nat) (els : List (List D)) (vs : List Value) (hv : cellsAll w H.others els.flatten vs) (hsz : ∀ el ∈ els, el.length = sz) (hlen : els.length * sz ≤ vs.length) :
    HOk (w.alloc (Obj.cells ⟨vs⟩ t)) (H.upd w.heap.size (.row t 0 sz els)) := by
  refine hH.alloc ⟨⟨vs⟩, (0, 0), heap_alloc_new w _, free0 _, by simpa using hlen, ?_⟩
  have hk := cellsAll_keep (ev_alloc (Obj.cells ⟨vs⟩ t) (.row t 0 sz els) hH).kept _ hv
  refine rowsAt_of fun i el hi => ⟨hsz el (List.mem_of_getElem? hi), ?_⟩
  have hdrop : ∀ (i : Nat) (els : List (List D)), (∀ el ∈ els, el.length = sz) → ∀ el, els[i]? = some el → (els.flatten.drop (i * sz)).take sz = el := by
    intro i
    induction i with
    | zero =>
      intro els hs el h0
      cases els with
      | nil => simp at h0
      | cons e els =>
        simp at h0
        subst h0
        have := hs e (by simp)
        simp [← this]
    | succ i ih =>
      intro els hs el h0
      cases els with
      | nil => simp at h0
      | cons e els =>
        have h1 := hs e (by simp)
        have h2 := ih els (fun x hx => hs x (by simp [hx])) el (by simpa using h0)
        rw [List.flatten_cons, Nat.add_mul, Nat.one_mul, List.drop_append, List.drop_of_length_le (by omega), h1, List.nil_append]
        simpa [Nat.add_sub_cancel] using h2
  have he := hdrop i els hsz el hi
  have h1 := cellsAll_take sz (cellsAll_drop (i * sz) hk)
  rw [he] at h1
  refine cellsAt_of h1 fun j v hj => ?_
  rw [Nat.zero_add, cell_of_row _ _ _ _ _ _ (heap_alloc_new w _)]
  rw [List.getElem?_take] at hj
  split at hj
  · rw [List.getElem?_drop] at hj
    simpa using hj
  · cases hj
def okd (n : Nat) : Option Tmp → Prop
  | some t => t < n
  | none => True
theorem okd_spec {n : Nat} {dst : Option Tmp} (h : okd n dst) : ∀ t, dst = some t → t < n := fun t e => by subst e; exact h
theorem sem_FR {ro : Option Nat} {ρ : Operand → Value} {o : Oper} (h : ∀ c, o.op ≠ .defer c) : o.semAt (FR ro).round ρ = execOp ρ o := Oper.semAt_eq ro ρ o h
theorem WO_val {cx : Cx} {o : Oper} {K : St → Prop} {s : St} (hdef : ∀ c, o.op ≠ .defer c) (hd : okd cx.n o.dst)
    (h : ∀ a w, Match cx s a w → ∃ v w' d H', (execOp a.eval o).run cx.P w = .ok (.value v) w' ∧ D.is w' H'.others d v ∧ HOk w' H' ∧ Ev s.H w H' w' ∧ K ((s.withH H').put o.dst d)) : WO cx o K s := fun a w m => by
  refine ⟨about_FR, ?_⟩
  rw [sem_FR hdef]
  obtain ⟨v, w', d, H', h1, h2, h3, h4, h5⟩ := h a w m
  rw [h1, Oper.uponIn_value]
  exact ⟨_, (m.go h4 h3).put (okd_spec hd) h2, h5⟩
theorem WO_pure {cx : Cx} {o : Oper} {K : St → Prop} {s : St} (hdef : ∀ c, o.op ≠ .defer c) (hd : okd cx.n o.dst)
    (h : ∀ a w, Match cx s a w → ∃ v d, (execOp a.eval o).run cx.P w = .ok (.value v) w ∧ D.is w s.H.others d v ∧ K (s.put o.dst d)) : WO cx o K s :=
  WO_val hdef hd fun a w m => by
    obtain ⟨v, d, h1, h2, h3⟩ := h a w m
    exact ⟨v, w, d, s.H, h1, h2, m.H, Ev.refl _ _, h3⟩
theorem WO_skip {cx : Cx} {o : Oper} {K : St → Prop} {s : St} (hdef : ∀ c, o.op ≠ .defer c) (hd : okd cx.n o.dst)
    (h : ∀ a w, Match cx s a w → ∃ w' H', (execOp a.eval o).run cx.P w = .ok .skip w' ∧ HOk w' H' ∧ Ev s.H w H' w' ∧ K ((s.withH H').put o.dst (.val undef))) : WO cx o K s := fun a w m => by
  refine ⟨about_FR, ?_⟩
  rw [sem_FR hdef]
  obtain ⟨w', H', h1, h3, h4, h5⟩ := h a w m
  rw [h1, Oper.uponIn_skip]
  exact ⟨_, (m.go h4 h3).put (okd_spec hd) (by simp only [D.is]), h5⟩
theorem is_val {w : World} {S : Nat → Prop} {u v : Value} (h : D.is w S (.val u) v) : v = u := by simpa only [D.is] using h
theorem is_mk {w : World} {S : Nat → Prop} (u : Value) : D.is w S (.val u) u := by simp only [D.is]
def bInt (op : BinOp) (k : IntKind) (a b : Int) (K : D → Prop) : Prop :=
  match op with
  | .add => K (.val (.int k (k.wrap (a + b))))
  | .sub => K (.val (.int k (k.wrap (a - b))))
  | .mul => K (.val (.int k (k.wrap (a * b))))
  | .quo => b ≠ 0 ∧ K (.val (.int k (k.wrap (a.tdiv b))))
  | .rem => b ≠ 0 ∧ K (.val (.int k (a.tmod b)))
  | .and => K (.val (.int k (bits .and k a b)))
  | .or => K (.val (.int k (bits .or k a b)))
  | .xor => K (.val (.int k (bits .xor k a b)))
  | .andNot => K (.val (.int k (bits .andNot k a b)))
  | .eql => K (.val (.bool (decide (a = b))))
  | .neq => K (.val (.bool (decide (a ≠ b))))
  | .lss => K (.val (.bool (decide (a < b))))
  | .leq => K (.val (.bool (decide (a ≤ b))))
  | .gtr => K (.val (.bool (decide (b < a))))
  | .geq => K (.val (.bool (decide (b ≤ a))))
  | _ => False
def bStr (op : BinOp) (a b : ByteArray) (K : D → Prop) : Prop :=
  match op with
  | .add => a.size + b.size ≤ 9223372036854775807 ∧ K (.val (.string (a ++ b)))
  | .eql => K (.val (.bool (decide (a.toList = b.toList))))
  | .neq => K (.val (.bool (decide (a.toList ≠ b.toList))))
  | .lss => K (.val (.bool (Op.bytesLess a.toList b.toList)))
  | .leq => K (.val (.bool (Op.bytesLess a.toList b.toList || decide (a.toList = b.toList))))
  | .gtr => K (.val (.bool (!(Op.bytesLess a.toList b.toList || decide (a.toList = b.toList)))))
  | .geq => K (.val (.bool (!Op.bytesLess a.toList b.toList)))
  | _ => False
def D.nilPtr : D → Option Bool
  | .val (.pointer none) => some true
  | .val (.pointer (some _)) | .ep _ _ _ _ _ | .rp _ => some false
  | _ => none
def D.nilSl : D → Option Bool
  | .val (.slice none _ _) => some true
  | .val (.slice (some _) _ _) => some false
  | .os _ _ _ _ n => if n = 0 then none else some false
  | .seq _ els => if els.length = 0 then none else some false
  | _ => none
def D.nilMap : D → Option Bool
  | .val (.map none) => some true
  | .val (.map (some _)) => some false
  | _ => none
def nilOp (op : BinOp) (b : Bool) (K : D → Prop) : Prop :=
  match op with
  | .eql => K (.val (.bool b))
  | .neq => K (.val (.bool (!b)))
  | _ => False
def bNilP (P : Program) (op : BinOp) (t : TypeId) (x : D) (K : D → Prop) : Prop :=
  match tyi P t, x.nilPtr with
  | some ⟨.ptr _, _, _, _⟩, some b => nilOp op b K
  | _, _ => False
def bNilS (P : Program) (op : BinOp) (t : TypeId) (x : D) (K : D → Prop) : Prop :=
  match tyi P t, x.nilSl with
  | some ⟨.slice _, _, _, _⟩, some b => nilOp op b K
  | _, _ => False
def bNilM (P : Program) (op : BinOp) (t : TypeId) (x : D) (K : D → Prop) : Prop :=
  match tyi P t, x.nilMap with
  | some ⟨.map _ _, _, _, _⟩, some b => nilOp op b K
  | _, _ => False
def isBoolTy (P : Program) (t : TypeId) : Prop := match tyi P t with | some ⟨.bool, _, _, _⟩ => True | _ => False
def eqK : List D → List D → Option (List Bool × Bool)
  | [], [] => some ([], true)
  | .val (.int .i64 a) :: x, .val (.int .i64 b) :: y => (match eqK x y with | some (k, r) => some (false :: k, decide (a = b) && r) | none => none)
  | .val (.string a) :: x, .val (.string b) :: y => (match eqK x y with | some (k, r) => some (true :: k, decide (a.toList = b.toList) && r) | none => none)
  | _, _ => none
def EqTy (P : Program) (t : TypeId) (ks : List Bool) : Prop :=
  ∀ (ds es : List D) (r : Bool) (vs us : List Value) (w : World) (S : Nat → Prop) (op : BinOp) (p q : Operand), eqK ds es = some (ks, r) → cellsAll w S ds vs → cellsAll w S es us →
    (eqGuard op t p q (.agg vs.toArray) (.agg us.toArray)).run P w = .ok () w ∧ (Op.equal t (.agg vs.toArray) (.agg us.toArray)).run P w = .ok r w
def binV (P : Program) (op : BinOp) (t : TypeId) (x y : D) (K : D → Prop) : Prop :=
  match x, y with
  | .val (.int k a), .val (.int k' b) =>
    (match op with
    | .shl => 0 ≤ b ∧ K (.val (.int k (k.wrap (a * 2 ^ min b.toNat k.bits))))
    | .shr => 0 ≤ b ∧ K (.val (.int k (a.fdiv (2 ^ min b.toNat k.bits))))
    | op => k = k' ∧ bInt op k a b K)
  | .val (.string a), .val (.string b) => bStr op a b K
  | .val (.bool a), .val (.bool b) => isBoolTy P t ∧ (match op with
    | .eql => K (.val (.bool (decide (a = b))))
    | .neq => K (.val (.bool (decide (a ≠ b))))
    | _ => False)
  | .agg ds, .agg es => (match eqK ds es with | some (ks, r) => EqTy P t ks ∧ nilOp op r K | none => False)
  | x, .val (.pointer none) => bNilP P op t x K
  | x, .val (.slice none _ _) => bNilS P op t x K
  | x, .val (.map none) => bNilM P op t x K
  | _, _ => False
theorem run_bInt {P : Program} {w : World} {op : BinOp} {t : TypeId} {k : IntKind} {a b : Int} {K : D → Prop} (h : bInt op k a b K) : ∃ v, (binOp op t (.int k a) (.int k b)).run P w = .ok v w ∧ K (.val v) := by
  cases op <;> simp only [bInt] at h <;> first
    | exact ⟨_, rfl, h⟩
    | (refine ⟨_, ?_, h.2⟩; have h0 := h.1; simp [binOp, Op.intDiv, h0]; done)
    | (refine ⟨_, ?_, h⟩; simp [binOp, Op.intCmp, bne]; done)
    | (refine ⟨_, ?_, h⟩; simp [binOp, Op.intCmp, bne]; rfl)
    | exact h.elim
theorem run_bStr {P : Program} {w : World} {op : BinOp} {t : TypeId} {a b : ByteArray} {K : D → Prop} (h : bStr op a b K) : ∃ v, (binOp op t (.string a) (.string b)).run P w = .ok v w ∧ K (.val v) := by
  have e : (a.toList == b.toList) = decide (a.toList = b.toList) := by
    by_cases h : a.toList = b.toList <;> simp [h]
  have e2 : (!decide (a.toList = b.toList)) = decide (a.toList ≠ b.toList) := by
    by_cases h : a.toList = b.toList <;> simp [h]
  cases op <;> simp only [bStr] at h <;> first
    | (refine ⟨_, ?_, h⟩; simp only [binOp, Op.stringOp, e]; rfl)
    | (refine ⟨_, ?_, h⟩; simp only [binOp, Op.stringOp, e, e2]; rfl)
    | (refine ⟨_, ?_, h.2⟩
       have h0 : ¬ ((a.size + b.size : Nat) : Int) > IntKind.i64.max := by
        have h1 := h.1
        have : IntKind.i64.max = 9223372036854775807 := by decide
        omega
       simp only [binOp, Op.stringOp, h0, if_false]; rfl)
    | exact h.elim
theorem nilPtr_spec {w : World} {S : Nat → Prop} {d : D} {v : Value} {b : Bool} (h : D.is w S d v) (hb : d.nilPtr = some b) : ∃ p : Option Addr, v = .pointer p ∧ p.isNone = b := by
  cases d with
  | val u =>
    have e := is_val h
    subst e
    cases v with
    | pointer p => refine ⟨p, rfl, ?_⟩; cases p <;> simp [D.nilPtr] at hb <;> simp [hb]
    | _ => simp [D.nilPtr] at hb
  | ep => simp only [D.is] at h; exact ⟨_, h, by simpa [D.nilPtr] using hb⟩
  | rp cs => simp only [D.is] at h; obtain ⟨b, o, rfl, _⟩ := h; exact ⟨_, rfl, by simpa [D.nilPtr] using hb⟩
  | _ => simp [D.nilPtr] at hb
theorem nilMap_spec {w : World} {S : Nat → Prop} {d : D} {v : Value} {b : Bool} (h : D.is w S d v) (hb : d.nilMap = some b) : ∃ p : Option Nat, v = .map p ∧ p.isNone = b := by
  cases d with
  | val u =>
    have e := is_val h
    subst e
    cases v with
    | map p => refine ⟨p, rfl, ?_⟩; cases p <;> simp [D.nilMap] at hb <;> simp [hb]
    | _ => simp [D.nilMap] at hb
  | _ => simp [D.nilMap] at hb
theorem nilSl_spec {w : World} {S : Nat → Prop} {d : D} {v : Value} {b : Bool} (h : D.is w S d v) (hb : d.nilSl = some b) : ∃ p n c, v = .slice p n c ∧ p.isNone = b := by
  cases d with
  | val u =>
    have e := is_val h
    subst e
    cases v with
    | slice p n c => refine ⟨p, n, c, rfl, ?_⟩; cases p <;> simp [D.nilSl] at hb <;> simp [hb]
    | _ => simp [D.nilSl] at hb
  | os b' o sz k n =>
    simp only [D.is] at h
    obtain ⟨A, c, rfl, h1, h2⟩ := h
    simp only [D.nilSl] at hb
    split at hb
    · cases hb
    · rcases h2 with h2 | ⟨rfl, _⟩
      · omega
      · exact ⟨_, _, _, rfl, by simpa using hb⟩
  | seq sz els =>
    simp only [D.is] at h
    obtain ⟨A, c, rfl, h1, h2⟩ := h
    simp only [D.nilSl] at hb
    split at hb
    · cases hb
    · rename_i hne
      rcases h2 with h2 | ⟨_, _, rfl, _⟩
      · subst h2; simp at hne
      · exact ⟨_, _, _, rfl, by simpa using hb⟩
  | _ => simp [D.nilSl] at hb
theorem eqIn_ptr {P : Program} {w : World} (d : Nat) {t e : TypeId} (h : P.underlying t = some (.pointer e)) (p : Option Addr) : (Op.equalIn (d + 1) t (.pointer p) (.pointer none)).run P w = .ok p.isNone w := by
  cases p <;> simp [Op.equalIn, run_under h]
theorem eqIn_slice {P : Program} {w : World} (d : Nat) {t e : TypeId} (h : P.underlying t = some (.slice e)) (p : Option Addr) (n c n' c' : Nat) : (Op.equalIn (d + 1) t (.slice p n c) (.slice none n' c')).run P w = .ok p.isNone w := by
  cases p <;> simp [Op.equalIn, run_under h]
theorem eqIn_map {P : Program} {w : World} (d : Nat) {t k e : TypeId} (h : P.underlying t = some (.map k e)) (p : Option Nat) : (Op.equalIn (d + 1) t (.map p) (.map none)).run P w = .ok p.isNone w := by
  cases p <;> simp [Op.equalIn, run_under h]
theorem eqIn_bool {P : Program} {w : World} (d : Nat) {t : TypeId} (h : P.underlying t = some .bool) (a b : Bool) : (Op.equalIn (d + 1) t (.bool a) (.bool b)).run P w = .ok (a == b) w := by
  simp [Op.equalIn, run_under h]
theorem run_nilOp {P : Program} {w : World} {op : BinOp} {t : TypeId} {v y : Value} {b : Bool} {K : D → Prop} (h : nilOp op b K) (hr : (Op.equal t v y).run P w = .ok b w) (he : binOp .eql t v y = (do pure (.bool (← Op.equal t v y)))) (hn : binOp .neq t v y = (do pure (.bool (!(← Op.equal t v y))))) :
    ∃ u, (binOp op t v y).run P w = .ok u w ∧ K (.val u) := by
  cases op <;> simp only [nilOp] at h <;> first
    | exact ⟨_, by rw [he]; simp [hr, Result.andThen], h⟩
    | exact ⟨_, by rw [hn]; simp [hr, Result.andThen], h⟩
    | exact h.elim
theorem run_bNilP {P : Program} {w : World} {S : Nat → Prop} {op : BinOp} {t : TypeId} {x : D} {v : Value} {K : D → Prop} (h : bNilP P op t x K) (hx : D.is w S x v) : ∃ u, (binOp op t v (.pointer none)).run P w = .ok u w ∧ K (.val u) := by
  unfold bNilP at h
  split at h
  · rename_i hT hb
    obtain ⟨d, i, h1, h2, h3⟩ := tyi_spec hT
    obtain ⟨p, rfl, hp⟩ := nilPtr_spec hx hb
    injection h3 with h3
    cases d <;> simp [tdOf] at h3
    subst h3
    exact run_nilOp h (by rw [← hp]; exact eqIn_ptr 9999 h1 p) rfl rfl
  · exact h.elim
theorem run_bNilS {P : Program} {w : World} {S : Nat → Prop} {op : BinOp} {t : TypeId} {x : D} {v : Value} {n c : Nat} {K : D → Prop} (h : bNilS P op t x K) (hx : D.is w S x v) : ∃ u, (binOp op t v (.slice none n c)).run P w = .ok u w ∧ K (.val u) := by
  unfold bNilS at h
  split at h
  · rename_i hT hb
    obtain ⟨d, i, h1, h2, h3⟩ := tyi_spec hT
    obtain ⟨p, n', c', rfl, hp⟩ := nilSl_spec hx hb
    injection h3 with h3
    cases d <;> simp [tdOf] at h3
    subst h3
    exact run_nilOp h (by rw [← hp]; exact eqIn_slice 9999 h1 p n' c' n c) rfl rfl
  · exact h.elim
theorem run_bNilM {P : Program} {w : World} {S : Nat → Prop} {op : BinOp} {t : TypeId} {x : D} {v : Value} {K : D → Prop} (h : bNilM P op t x K) (hx : D.is w S x v) : ∃ u, (binOp op t v (.map none)).run P w = .ok u w ∧ K (.val u) := by
  unfold bNilM at h
  split at h
  · rename_i hT hb
    obtain ⟨d, i, h1, h2, h3⟩ := tyi_spec hT
    obtain ⟨p, rfl, hp⟩ := nilMap_spec hx hb
    injection h3 with h3
    cases d <;> simp [tdOf] at h3
    obtain ⟨rfl, rfl⟩ := h3
    exact run_nilOp h (by rw [← hp]; exact eqIn_map 9999 h1 p) rfl rfl
  · exact h.elim
theorem eqGuard_ok {P : Program} {w : World} {op : BinOp} {t : TypeId} {x y : Operand} {a b : Value} (h : (∀ c, a ≠ .agg c) ∧ a ≠ .nilIface ∨ (∀ c, b ≠ .agg c) ∧ b ≠ .nilIface) : (eqGuard op t x y a b).run P w = .ok () w := by
  rcases h with ⟨h1, h2⟩ | ⟨h1, h2⟩
  · cases a <;> first | exact absurd rfl h2 | exact absurd rfl (h1 _) | (unfold eqGuard; split <;> rfl)
  · cases b <;> first | exact absurd rfl h2 | exact absurd rfl (h1 _) | (unfold eqGuard; split <;> first | rfl | (cases a <;> rfl))
theorem run_binV {P : Program} {w : World} {S : Nat → Prop} {op : BinOp} {t : TypeId} {x y : D} {a b : Value} {p q : Operand} {K : D → Prop} (h : binV P op t x y K) (hx : D.is w S x a) (hy : D.is w S y b) :
    ∃ u, (do eqGuard op t p q a b; binOp op t a b).run P w = .ok u w ∧ K (.val u) := by
  unfold binV at h
  split at h
  · rename_i k a' k' b'
    have e1 := is_val hx
    have e2 := is_val hy
    subst e1 e2
    have hg : (eqGuard op t p q (.int k a') (.int k' b')).run P w = .ok () w := eqGuard_ok (.inl (by simp))
    simp only [Sem.run_bind, hg, Result.andThen]
    split at h
    · have h0 : ¬ b' < 0 := by omega
      refine ⟨_, ?_, h.2⟩
      simp [binOp, Op.shift, h0]
    · have h0 : ¬ b' < 0 := by omega
      refine ⟨_, ?_, h.2⟩
      simp [binOp, Op.shift, h0]
    · obtain ⟨rfl, h⟩ := h
      exact run_bInt h
  · rename_i a' b'
    have e1 := is_val hx
    have e2 := is_val hy
    subst e1 e2
    have hg : (eqGuard op t p q (.string a') (.string b')).run P w = .ok () w := eqGuard_ok (.inl (by simp))
    simp only [Sem.run_bind, hg, Result.andThen]
    exact run_bStr h
  · rename_i a' b'
    have e1 := is_val hx
    have e2 := is_val hy
    subst e1 e2
    have hg : (eqGuard op t p q (.bool a') (.bool b')).run P w = .ok () w := eqGuard_ok (.inl (by simp))
    simp only [Sem.run_bind, hg, Result.andThen]
    obtain ⟨h0, h⟩ := h
    have hu : P.underlying t = some .bool := by
      unfold isBoolTy at h0
      split at h0
      · rename_i heq
        obtain ⟨d, i, h1, h2, h3⟩ := tyi_spec heq
        injection h3 with h3
        cases d <;> simp [tdOf] at h3
        exact h1
      · exact h0.elim
    have hr : (Op.equal t (.bool a') (.bool b')).run P w = .ok (a' == b') w := eqIn_bool 9999 hu a' b'
    have e3 : (a' == b') = decide (a' = b') := by cases a' <;> cases b' <;> rfl
    have e4 : (!decide (a' = b')) = decide (a' ≠ b') := by cases a' <;> cases b' <;> rfl
    split at h
    · exact ⟨.bool (a' == b'), by simp [binOp, hr, Result.andThen], by rw [e3]; exact h⟩
    · exact ⟨.bool (!(a' == b')), by simp [binOp, hr, Result.andThen], by rw [e3, e4]; exact h⟩
    · exact h.elim
  · split at h
    · rename_i ks r hk
      simp only [D.is] at hx hy
      obtain ⟨vs, rfl, hv⟩ := hx
      obtain ⟨us, rfl, hu⟩ := hy
      obtain ⟨h1, h2⟩ := h.1 _ _ _ _ _ w S op p q hk hv hu
      have h := h.2
      simp only [Sem.run_bind, h1, Result.andThen]
      unfold nilOp at h
      split at h
      · exact ⟨.bool r, by simp [binOp, h2, Result.andThen], h⟩
      · exact ⟨.bool (!r), by simp [binOp, h2, Result.andThen], h⟩
      · exact h.elim
    · exact h.elim
  · have e2 := is_val hy
    subst e2
    have hg : (eqGuard op t p q a (.pointer none)).run P w = .ok () w := eqGuard_ok (.inr (by simp))
    simp only [Sem.run_bind, hg, Result.andThen]
    exact run_bNilP h hx
  · rename_i x' y' n c
    have e2 := is_val hy
    subst e2
    have hg : (eqGuard op t p q a (.slice none n c)).run P w = .ok () w := eqGuard_ok (.inr (by simp))
    simp only [Sem.run_bind, hg, Result.andThen]
    exact run_bNilS h hx
  · have e2 := is_val hy
    subst e2
    have hg : (eqGuard op t p q a (.map none)).run P w = .ok () w := eqGuard_ok (.inr (by simp))
    simp only [Sem.run_bind, hg, Result.andThen]
    exact run_bNilM h hx
  · exact h.elim
def unV (op : UnOp) (x : D) (K : D → Prop) : Prop :=
  match op, x with
  | .neg, .val (.int k n) => K (.val (.int k (k.wrap (0 - n))))
  | .xor, .val (.int k n) => K (.val (.int k (bits .xor k (if k.signed then -1 else k.max) n)))
  | .not, .val (.bool b) => K (.val (.bool (!b)))
  | _, _ => False
theorem run_unV {P : Program} {w : World} {S : Nat → Prop} {op : UnOp} {x : D} {v : Value} {K : D → Prop} (h : unV op x K) (hx : D.is w S x v) : ∃ u, (Op.unary op v).run P w = .ok u w ∧ K (.val u) := by
  unfold unV at h
  split at h
  · have e := is_val hx; subst e; exact ⟨_, rfl, h⟩
  · have e := is_val hx; subst e; exact ⟨_, rfl, h⟩
  · have e := is_val hx; subst e; exact ⟨_, rfl, h⟩
  · exact h.elim
def elsP (H : Heap) (sz : Nat) (x : D) (K : List (List D) → Prop) : Prop :=
  match x with
  | .seq sz' els => sz' = sz ∧ K els
  | .os b o sz' k n => (match H b with
    | some (.row _ o' sz'' els) => o' = o ∧ sz'' = sz' ∧ sz' = sz ∧ k + n ≤ els.length ∧ K ((els.drop k).take n)
    | _ => False)
  | .val (.slice none 0 _) => K []
  | .emp => K []
  | _ => False
theorem elsP_spec {H : Heap} {w : World} (hH : HOk w H) {sz : Nat} {x : D} {v : Value} {K : List (List D) → Prop} (h : elsP H sz x K) (hx : D.is w H.others x v) :
    ∃ els A c, K els ∧ v = .slice A els.length c ∧ els.length ≤ c ∧ (els = [] ∨ ∃ b o, A = some ⟨b, o, none⟩ ∧ b < w.heap.size ∧ rowsAt w H.others b sz o els) := by
  unfold elsP at h
  split at h
  · obtain ⟨rfl, h⟩ := h
    simp only [D.is] at hx
    obtain ⟨A, c, rfl, h1, h2⟩ := hx
    refine ⟨_, A, c, h, rfl, h1, ?_⟩
    rcases h2 with h2 | ⟨b, o, h3, _, h4, h5⟩
    · exact .inl h2
    · exact .inr ⟨b, o, h3, h4, h5⟩
  · split at h
    · rename_i hb
      obtain ⟨rfl, rfl, rfl, hle, h⟩ := h
      simp only [D.is] at hx
      obtain ⟨A, c, rfl, h1, h2⟩ := hx
      obtain ⟨cs, fr, h3, h4, h5, h6⟩ := hH _ _ hb
      have hl : ∀ (l : List (List D)) (k n : Nat), k + n ≤ l.length → ((l.drop k).take n).length = n := fun l k n h => by rw [List.length_take, List.length_drop]; omega
      refine ⟨_, A, c, h, by rw [hl _ _ _ hle], by rw [hl _ _ _ hle]; exact h1, ?_⟩
      rcases h2 with h2 | ⟨h2, _⟩
      · left
        apply List.eq_nil_of_length_eq_zero
        rw [hl _ _ _ hle]; omega
      · exact .inr ⟨_, _, h2, hH.lt hb, rowsAt_take (rowsAt_drop h6 _) _⟩
    · exact h.elim
  · have e := is_val hx
    subst e
    exact ⟨[], _, _, h, rfl, Nat.zero_le _, .inl rfl⟩
  · simp only [D.is] at hx
    obtain ⟨A, rfl⟩ := hx
    exact ⟨[], _, _, h, rfl, Nat.zero_le _, .inl rfl⟩
  · exact h.elim
def bD (c : UInt8) : List D := [.val (.int .u8 (c.toNat : Int))]
def byteOf : List D → Option UInt8
  | [.val (.int .u8 n)] => some (UInt8.ofNat n.toNat)
  | _ => none
def bytesOf : List (List D) → Option (List UInt8)
  | [] => some []
  | e :: els => match byteOf e, bytesOf els with
    | some c, some l => some (c :: l)
    | _, _ => none
theorem byteOf_spec {e : List D} {c : UInt8} (h : byteOf e = some c) : ∃ n, e = [.val (.int .u8 n)] ∧ c = UInt8.ofNat n.toNat := by
  unfold byteOf at h
  split at h
  · injection h with h; exact ⟨_, rfl, h.symm⟩
  · cases h
theorem bytesOf_nums {w : World} {S : Nat → Prop} {b : Nat} : ∀ {els : List (List D)} {o : Nat} {l : List UInt8}, bytesOf els = some l → rowsAt w S b 1 o els →
    ∃ ns : List Int, ns.length = els.length ∧ l = ns.map (fun n => UInt8.ofNat n.toNat) ∧ ∀ i, i < ns.length → w.cell? ⟨b, o + i, none⟩ = some (.int .u8 (ns.getD i 0))
  | [], _, l, h, _ => by simp [bytesOf] at h; subst h; exact ⟨[], rfl, rfl, fun i hi => by simp at hi⟩
  | e :: els, o, l, h, hr => by
    simp only [bytesOf] at h
    split at h
    · rename_i c l' h1 h2
      injection h with h
      subst h
      simp only [rowsAt] at hr
      obtain ⟨n, rfl, rfl⟩ := byteOf_spec h1
      obtain ⟨ns, h3, h4, h5⟩ := bytesOf_nums h2 hr.2.2
      have hc := hr.2.1
      simp only [cellsAt, D.is] at hc
      obtain ⟨⟨u, hu, _, rfl⟩, _⟩ := hc
      refine ⟨n :: ns, by simp [h3], by simp [h4], fun i hi => ?_⟩
      cases i with
      | zero => exact hu
      | succ i => rw [show o + (i + 1) = o + 1 + i by omega]; simpa using h5 i (by simpa using hi)
    · cases h
def cvV (P : Program) (H : Heap) (src dst : TypeId) (x : D) (K : D → Prop) : Prop :=
  match tyi P src, tyi P dst with
  | some A, some B =>
    (match A.d, B.d, x with
    | _, .int k, .val (.int _ n) => K (.val (.int k (k.wrap n)))
    | _, .string, .val (.string s) => K (.val (.string s))
    | .slice e, .string, x => (match tyi P e with
      | some ⟨.int .u8, _, _, _⟩ => elsP H 1 x fun els => match bytesOf els with
        | some l => K (.val (.string (bstr l)))
        | none => False
      | _ => False)
    | _, _, _ => False)
  | _, _ => False
theorem run_cvV {P : Program} {H : Heap} {w : World} (hH : HOk w H) {src dst : TypeId} {x : D} {v : Value} {K : D → Prop} (h : cvV P H src dst x K) (hx : D.is w H.others x v) : ∃ u, (convert src dst v).run P w = .ok u w ∧ K (.val u) := by
  unfold cvV at h
  split at h
  · rename_i A B hA hB
    obtain ⟨dA, iA, a1, a2, rfl⟩ := tyi_spec hA
    obtain ⟨dB, iB, b1, b2, rfl⟩ := tyi_spec hB
    simp only at h
    split at h
    · rename_i e1
      have e := is_val hx
      subst e
      cases dB <;> simp [tdOf] at e1
      subst e1
      refine ⟨_, ?_, h⟩
      simp [convert, run_under a1, run_under b1, Conv.intToInt]
    · rename_i e1
      have e := is_val hx
      subst e
      cases dB <;> simp [tdOf] at e1
      refine ⟨_, ?_, h⟩
      cases dA <;> simp [convert, run_under a1, run_under b1]
    · rename_i e' e1 e2 _
      cases dB <;> simp [tdOf] at e2
      cases dA <;> simp [tdOf] at e1
      subst e1
      split at h
      · rename_i hE
        obtain ⟨dE, iE, c1, c2, h3⟩ := tyi_spec hE
        injection h3 with h3
        cases dE <;> simp [tdOf] at h3
        subst h3
        obtain ⟨els, A, c, hk, rfl, hle, hrow⟩ := elsP_spec hH h hx
        cases hl : bytesOf els with
        | none => rw [hl] at hk; exact hk.elim
        | some l =>
          rw [hl] at hk
          refine ⟨_, ?_, hk⟩
          rcases hrow with rfl | ⟨b, o, rfl, _, hr⟩
          · simp [bytesOf] at hl
            subst hl
            rcases A with _ | ⟨b, o, sp⟩
            · rw [run_convert_bytes_nil w src _ a1 c1 _ _ dst b1]; rfl
            · rw [run_convert_bytes_string w src dst _ _ _ c a1 c1 b1, List.length_nil, run_bytesToString w _ _ c [] (by simp [loadCells, loadCellsFrom])]
              rfl
          · obtain ⟨ns, h1, h2, h3⟩ := bytesOf_nums hl hr
            rw [run_convert_bytes_arg w src _ a1 c1 b o els.length c ns (by omega) (fun i hi => h3 i (by omega)) dst b1]
            have htk : ns.take els.length = ns := List.take_of_length_le (by omega)
            try rw [htk]
            have : strOfNums ns = bstr l := by
              rw [h2]
              simp only [strOfNums, bstr]
            rw [this]
      · exact h.elim
    · exact h.elim
  · exact h.elim
def partV (P : Program) (t : TypeId) (cs : List D) (off : Nat) (K : D → Prop) : Prop :=
  match tyi P t with
  | some T => if T.d.agg then K (.agg ((cs.drop off).take T.size)) else (match cs[off]? with
    | some d => K d
    | none => False)
  | none => False
theorem run_partV {P : Program} {w : World} {S : Nat → Prop} {t : TypeId} {cs : List D} {vs : List Value} {off : Nat} {K : D → Prop} (h : partV P t cs off K) (hx : cellsAll w S cs vs) : ∃ u d, (Go.part t ⟨vs⟩ off).run P w = .ok u w ∧ D.is w S d u ∧ K d := by
  unfold partV at h
  split at h
  · rename_i T hT
    split at h
    · rename_i hag
      refine ⟨.agg ((⟨vs⟩ : Array Value).extract off (off + T.size)), _, ?_, ?_, h⟩
      · unfold Go.part
        simp only [Sem.run_bind, run_isAgg hT, hag, Result.andThen, if_true, run_size hT]
        rfl
      · simp only [D.is]
        exact ⟨((vs.drop off).take T.size), by simp [List.extract_eq_take_drop, Nat.add_sub_cancel_left], cellsAll_take _ (cellsAll_drop _ hx)⟩
    · rename_i hag
      split at h
      · rename_i d hd
        obtain ⟨v, h1, _, h2⟩ := cellsAll_get hx off d hd
        refine ⟨v, d, ?_, h2, h⟩
        have h3 : (⟨vs⟩ : Array Value)[off]? = some v := by simpa using h1
        unfold Go.part
        simp only [Sem.run_bind, run_isAgg hT, hag, Result.andThen, h3]
        rfl
      · exact h.elim
  · exact h.elim
def fieldsOf (P : Program) (t : TypeId) : List (Nat × TypeId) :=
  match tyi P t with
  | some ⟨.struct fs, _, _, _⟩ => fs
  | _ => []
theorem fieldsOf_spec {P : Program} {t : TypeId} {f off : Nat} {ft : TypeId} (h : (fieldsOf P t)[f]? = some (off, ft)) : ∃ fs fld, P.underlying t = some (.struct fs) ∧ fs[f]? = some fld ∧ fld.offset = off ∧ fld.type = ft := by
  unfold fieldsOf at h
  split at h
  · rename_i hT
    obtain ⟨d, i, h1, h2, h3⟩ := tyi_spec hT
    injection h3 with h3
    cases d <;> simp [tdOf] at h3
    rename_i fields
    subst h3
    rw [List.getElem?_map] at h
    cases hf : fields.toList[f]? with
    | none => rw [hf] at h; simp at h
    | some fld =>
      rw [hf] at h
      simp at h
      exact ⟨_, fld, h1, by simpa using hf, h.1, h.2⟩
  · simp at h
def fieldV (P : Program) (t : TypeId) (x : D) (f : Nat) (K : D → Prop) : Prop :=
  match x, (fieldsOf P t)[f]? with
  | .agg cs, some (off, ft) => partV P ft cs off K
  | _, _ => False
theorem run_fieldV {P : Program} {w : World} {S : Nat → Prop} {t : TypeId} {x : D} {v : Value} {f : Nat} {K : D → Prop} (h : fieldV P t x f K) (hx : D.is w S x v) : ∃ u d, (Instr.field t v f).run P w = .ok u w ∧ D.is w S d u ∧ K d := by
  unfold fieldV at h
  split at h
  · rename_i cs off ft hf
    obtain ⟨fs, fld, h1, h2, rfl, rfl⟩ := fieldsOf_spec hf
    simp only [D.is] at hx
    obtain ⟨vs, rfl, hx⟩ := hx
    obtain ⟨u, d, h3, h4, h5⟩ := run_partV h hx
    refine ⟨u, d, ?_, h4, h5⟩
    unfold Instr.field
    simp only [Sem.run_bind, run_under h1, Result.andThen, h2, asAgg, Sem.run_pure]
    exact h3
  · exact h.elim
def faV (P : Program) (t : TypeId) (x : D) (f : Nat) (K : D → Prop) : Prop :=
  match (fieldsOf P t)[f]? with
  | some (off, ft) => (match tyi P ft with
    | some T => T.size ≠ 0 ∧ (match x with
      | .ep b o sz i k => K (.ep b o sz i (k + off))
      | .rp cs => K (.rp (cs.drop off))
      | _ => False)
    | none => False)
  | none => False
theorem run_faV {P : Program} {w : World} {S : Nat → Prop} {t : TypeId} {x : D} {v : Value} {f : Nat} {K : D → Prop} (h : faV P t x f K) (hx : D.is w S x v) : ∃ u d, (Instr.fieldAt t v f).run P w = .ok u w ∧ D.is w S d u ∧ K d := by
  unfold faV at h
  split at h
  · rename_i off ft hf
    obtain ⟨fs, fld, h1, h2, rfl, rfl⟩ := fieldsOf_spec hf
    split at h
    · rename_i T hT
      obtain ⟨hsz, h⟩ := h
      have key : ∀ a : Addr, (Instr.fieldAt t (.pointer (some a)) f).run P w = .ok (.pointer (some (a.add fld.offset))) w := fun a => by
        unfold Instr.fieldAt
        simp only [Sem.run_bind, run_under h1, Result.andThen, h2, Instr.sureAddr, Sem.run_pure, fieldPlace, run_size hT]
        rw [if_neg hsz]
        rfl
      split at h
      · simp only [D.is] at hx
        subst hx
        refine ⟨_, _, key _, ?_, h⟩
        simp only [D.is]
        rw [Addr.add_lit, Nat.add_assoc]
      · simp only [D.is] at hx
        obtain ⟨b, o, rfl, h3, h4, h5⟩ := hx
        refine ⟨_, _, key _, ?_, h⟩
        simp only [D.is]
        exact ⟨b, o + fld.offset, by rw [Addr.add_lit], h3, h4, cellsAt_drop h5 _⟩
      · exact h.elim
    · exact h.elim
  · exact h.elim
def iaV (P : Program) (H : Heap) (t : TypeId) (x ix : D) (K : D → Prop) : Prop :=
  match ix, tyi P t with
  | .val (.int _ i), some T => (match T.d with
    | .slice e => (match tyi P e with
      | some E => (match x with
        | .seq sz els => sz = E.size ∧ 0 ≤ i ∧ (match els[i.toNat]? with
          | some el => K (.rp el)
          | none => False)
        | .os b o sz k n => sz = E.size ∧ 0 ≤ i ∧ i < (n : Int) ∧ K (.ep b o sz (k + i.toNat) 0)
        | _ => False)
      | none => False)
    | .array n e => (match tyi P e with
      | some E => 0 ≤ i ∧ i < (n : Int) ∧ (match x with
        | .ep b o sz j k => K (.ep b o sz j (k + i.toNat * E.size))
        | .rp cs => K (.rp (cs.drop (i.toNat * E.size)))
        | _ => False)
      | none => False)
    | _ => False)
  | _, _ => False
theorem run_iaV {P : Program} {H : Heap} {w : World} {t : TypeId} {x ix : D} {v u : Value} {K : D → Prop} (h : iaV P H t x ix K) (hx : D.is w H.others x v) (hi : D.is w H.others ix u) : ∃ r d, (Instr.indexAt t v u).run P w = .ok r w ∧ D.is w H.others d r ∧ K d := by
  unfold iaV at h
  split at h
  · rename_i k i T hT
    have e := is_val hi
    subst e
    obtain ⟨d, inf, h1, h2, rfl⟩ := tyi_spec hT
    cases d <;> simp only [tdOf] at h <;> try exact h.elim
    · rename_i e
      split at h
      · rename_i E hE
        have key : ∀ (a : Addr) (n c : Nat), 0 ≤ i → i < (n : Int) → (Instr.indexAt t (.slice (some a) n c) (.int k i)).run P w = .ok (.pointer (some (a.add (i.toNat * E.size)))) w := fun a n c h0 h1' => by
          unfold Instr.indexAt
          simp only [Sem.run_bind, asIntOf, Sem.run_pure, Result.andThen, run_under h1]
          rw [if_pos ⟨h0, h1'⟩]
          simp only [Sem.run_bind, run_size hE, Result.andThen, Sem.run_pure]
        split at h
        · rename_i sz els
          obtain ⟨rfl, h0, h⟩ := h
          split at h
          · rename_i el hel
            simp only [D.is] at hx
            obtain ⟨A, c, rfl, h3, h4⟩ := hx
            have hlt : i.toNat < els.length := (List.getElem?_eq_some_iff.1 hel).1
            rcases h4 with h4 | ⟨b, o, rfl, h5, h6, h7⟩
            · subst h4; simp at hlt
            · refine ⟨_, _, key _ _ _ h0 (by omega), ?_, h⟩
              simp only [D.is]
              exact ⟨b, o + i.toNat * E.size, by rw [Addr.add_lit], h5, h6, (rowsAt_get h7 _ _ hel).2⟩
          · exact h.elim
        · rename_i b o sz k' n
          obtain ⟨rfl, h0, h3, h⟩ := h
          simp only [D.is] at hx
          obtain ⟨A, c, rfl, h4, h5⟩ := hx
          rcases h5 with h5 | ⟨rfl, _⟩
          · omega
          · refine ⟨_, _, key _ _ _ h0 h3, ?_, h⟩
            simp only [D.is]
            rw [Addr.add_lit, Nat.add_mul]
            simp only [Nat.add_zero, Nat.add_assoc]
        · exact h.elim
      · exact h.elim
    · rename_i n e
      split at h
      · rename_i E hE
        obtain ⟨h0, h3, h⟩ := h
        have key : ∀ (a : Addr), (Instr.indexAt t (.pointer (some a)) (.int k i)).run P w = .ok (.pointer (some (a.add (i.toNat * E.size)))) w := fun a => by
          unfold Instr.indexAt
          simp only [Sem.run_bind, asIntOf, Sem.run_pure, Result.andThen, run_under h1, Instr.sureAddr]
          rw [if_pos ⟨h0, h3⟩]
          simp only [Sem.run_bind, run_size hE, Result.andThen, Sem.run_pure]
        split at h
        · simp only [D.is] at hx
          subst hx
          refine ⟨_, _, key _, ?_, h⟩
          simp only [D.is]
          rw [Addr.add_lit, Nat.add_assoc]
        · simp only [D.is] at hx
          obtain ⟨b, o, rfl, h4, h5, h6⟩ := hx
          refine ⟨_, _, key _, ?_, h⟩
          simp only [D.is]
          exact ⟨b, _, by rw [Addr.add_lit], h4, h5, cellsAt_drop h6 _⟩
        · exact h.elim
      · exact h.elim
  · exact h.elim
def ixV (P : Program) (t : TypeId) (x ix : D) (K : D → Prop) : Prop :=
  match ix, tyi P t with
  | .val (.int _ i), some T => (match T.d, x with
    | .array n e, .agg cs => (match tyi P e with
      | some E => 0 ≤ i ∧ i < (n : Int) ∧ partV P e cs (i.toNat * E.size) K
      | none => False)
    | .string, .val (.string s) => 0 ≤ i ∧ (match s.data.toList[i.toNat]? with
      | some c => K (.val (.int .u8 (c.toNat : Int)))
      | none => False)
    | _, _ => False)
  | _, _ => False
theorem run_ixV {P : Program} {w : World} {S : Nat → Prop} {t : TypeId} {x ix : D} {v u : Value} {K : D → Prop} (h : ixV P t x ix K) (hx : D.is w S x v) (hi : D.is w S ix u) : ∃ r d, (Instr.index t v u).run P w = .ok r w ∧ D.is w S d r ∧ K d := by
  unfold ixV at h
  split at h
  · rename_i k i T hT
    have e := is_val hi
    subst e
    obtain ⟨d, inf, h1, h2, rfl⟩ := tyi_spec hT
    simp only at h
    split at h
    · rename_i n e cs e1
      cases d <;> simp [tdOf] at e1
      obtain ⟨rfl, rfl⟩ := e1
      split at h
      · rename_i E hE
        obtain ⟨h0, h3, h⟩ := h
        simp only [D.is] at hx
        obtain ⟨vs, rfl, hx⟩ := hx
        obtain ⟨r, d, h4, h5, h6⟩ := run_partV h hx
        refine ⟨r, d, ?_, h5, h6⟩
        unfold Instr.index
        simp only [Sem.run_bind, asIntOf, Sem.run_pure, Result.andThen, run_under h1]
        rw [if_pos ⟨h0, h3⟩]
        simp only [Sem.run_bind, run_size hE, Result.andThen]
        exact h4
      · exact h.elim
    · rename_i s e1
      cases d <;> simp [tdOf] at e1
      obtain ⟨h0, h⟩ := h
      have e := is_val hx
      subst e
      split at h
      · rename_i c hc
        refine ⟨_, _, ?_, is_mk _, h⟩
        have h3 : s[i.toNat]? = some c := by
          have hlt := (List.getElem?_eq_some_iff.1 hc).1
          have hlt' : i.toNat < s.size := by rw [Array.length_toList] at hlt; exact hlt
          have := (List.getElem?_eq_some_iff.1 hc).2
          rw [getElem?_pos s i.toNat hlt', ← this]
          rfl
        unfold Instr.index
        simp only [Sem.run_bind, asIntOf, Sem.run_pure, Result.andThen, run_under h1]
        rw [if_pos h0, h3]
        rfl
      · exact h.elim
    · exact h.elim
  · exact h.elim
def ldC (ag : Bool) (sz : Nat) (cs : List D) (K : D → Prop) : Prop :=
  if ag then (if cs.length = sz then K (.agg cs) else sz ≤ cs.length ∧ K (.agg (cs.take sz)))
  else match cs with
    | d :: _ => K d
    | [] => False
theorem run_ldC {P : Program} {w : World} {S : Nat → Prop} {t : TypeId} {T : Ti} (hT : tyi P t = some T) {b o : Nat} {cs : List D} {K : D → Prop} (h : ldC T.d.agg T.size cs K) (hc : cellsAt w S b o cs) :
    ∃ v d, (loadVar t ⟨b, o, none⟩).run P w = .ok v w ∧ D.is w S d v ∧ K d := by
  have agg : ∀ (ds : List D), ds.length = T.size → cellsAt w S b o ds → T.d.agg = true → K (.agg ds) → ∃ v d, (loadVar t ⟨b, o, none⟩).run P w = .ok v w ∧ D.is w S d v ∧ K d := by
    intro ds hl hcs hag hk
    obtain ⟨vs, h1, h2⟩ := cellsAt_vals hcs
    have hvl := cellsAll_length h1
    refine ⟨.agg ⟨vs⟩, .agg ds, ?_, ?_, hk⟩
    · unfold loadVar
      simp only [Sem.run_bind, run_isAgg hT, hag, Result.andThen, if_true, run_size hT]
      have := run_loadCells_list (P := P) w ⟨b, o, none⟩ vs (fun j v hj => by rw [Addr.add_lit]; exact h2 j v hj)
      rw [hvl, hl] at this
      rw [this]
      rfl
    · simp only [D.is]; exact ⟨vs, rfl, h1⟩
  unfold ldC at h
  split at h
  · rename_i hag
    split at h
    · rename_i hl
      exact agg cs hl hc hag h
    · exact agg _ (by rw [List.length_take]; omega) (cellsAt_take hc _) hag h.2
  · rename_i hag
    split at h
    · rename_i d ds
      simp only [cellsAt] at hc
      obtain ⟨⟨u, h1, _, h2⟩, _⟩ := hc
      refine ⟨u, d, ?_, h2, h⟩
      unfold loadVar
      simp only [Sem.run_bind, run_isAgg hT, hag, Result.andThen]
      simp [h1]
    · exact h.elim
def ldV (P : Program) (H : Heap) (t : TypeId) (x : D) (K : D → Prop) : Prop :=
  match tyi P t with
  | some T => (match x with
    | .rp cs => ldC T.d.agg T.size cs K
    | .ep b o sz i k => (match H b with
      | some (.row _ o' sz' els) => o' = o ∧ sz' = sz ∧ (match els[i]? with
        | some el => ldC T.d.agg T.size (el.drop k) K
        | none => False)
      | _ => False)
    | _ => False)
  | none => False
theorem run_ldV {P : Program} {H : Heap} {w : World} (hH : HOk w H) {t : TypeId} {x : D} {v : Value} {K : D → Prop} (h : ldV P H t x K) (hx : D.is w H.others x v) : ∃ u d, (Instr.loadAt t v).run P w = .ok u w ∧ D.is w H.others d u ∧ K d := by
  unfold ldV at h
  split at h
  · rename_i T hT
    split at h
    · simp only [D.is] at hx
      obtain ⟨b, o, rfl, _, _, hc⟩ := hx
      obtain ⟨u, d, h1, h2, h3⟩ := run_ldC hT h hc
      refine ⟨u, d, ?_, h2, h3⟩
      simp only [Instr.loadAt, Instr.sureAddr, Sem.run_bind, Sem.run_pure, Result.andThen]
      exact h1
    · rename_i b o sz i k
      split at h
      · rename_i hb
        obtain ⟨rfl, rfl, h⟩ := h
        split at h
        · rename_i el hel
          simp only [D.is] at hx
          subst hx
          obtain ⟨cs, fr, h1, h2, h3, h4⟩ := hH _ _ hb
          have hc := cellsAt_drop (rowsAt_get h4 i el hel).2 k
          obtain ⟨u, d, h5, h6, h7⟩ := run_ldC hT h hc
          refine ⟨u, d, ?_, h6, h7⟩
          simp only [Instr.loadAt, Instr.sureAddr, Sem.run_bind, Sem.run_pure, Result.andThen]
          exact h5
        · exact h.elim
      · exact h.elim
    · exact h.elim
  · exact h.elim
theorem ev_block {H : Heap} {w w' : World} {b : Nat} {x : HObj} (hb : H b ≠ none) (e1 : w'.os = w.os) (e2 : w'.tape = w.tape) (e3 : w'.output = w.output) (e4 : w'.heap.size = w.heap.size) (ho : ∀ c, c ≠ b → w'.heap[c]? = w.heap[c]?)
    (hs : ∀ cs t fr, w.heap[b]? = some (Obj.cells cs t fr) → ∃ cs' fr', w'.heap[b]? = some (Obj.cells cs' t fr') ∧ cs'.size = cs.size) : Ev H w (H.upd b x) w' where
  os := e1
  tape := e2
  output := e3
  size := Nat.le_of_eq e4.symm
  keep := fun c hc hn => by
    have hne : c ≠ b := fun e => hb (e ▸ hn)
    exact ⟨ho c hne, by rw [Heap.upd_ne hne]; exact hn⟩
  shape := fun c cs t fr hc => by
    by_cases e : c = b
    · subst e; exact hs cs t fr hc
    · exact ⟨cs, fr, (ho c e).trans hc, rfl⟩
theorem hok_block {H : Heap} {w w' : World} {b : Nat} {x : HObj} (hH : HOk w H) (he : Ev H w (H.upd b x) w') (ho : ∀ c, c ≠ b → w'.heap[c]? = w.heap[c]?) (hx : objAt w' (H.upd b x) b x) : HOk w' (H.upd b x) := fun c y hc => by
  by_cases e : c = b
  · subst e
    rw [Heap.upd_same] at hc
    injection hc with hc
    subst hc
    exact hx
  · rw [Heap.upd_ne e] at hc
    exact he.objAt (ho c e) (hH c y hc)
def putAt (el : List D) (k : Nat) (c : List D) : List D := el.take k ++ c ++ el.drop (k + c.length)
theorem putAt_length {el c : List D} {k : Nat} (h : k + c.length ≤ el.length) : (putAt el k c).length = el.length := by simp [putAt]; omega
def stV (P : Program) (H : Heap) (t : TypeId) (x d : D) (K : Heap → Prop) : Prop :=
  match tyi P t, x, d.cells with
  | some T, .ep b o sz i k, some c => c.length = T.size ∧ (match H b with
    | some (.row ty o' sz' els) => o' = o ∧ sz' = sz ∧ (match els[i]? with
      | some el => k + c.length ≤ el.length ∧ K (H.upd b (.row ty o sz (els.set i (putAt el k c))))
      | none => False)
    | _ => False)
  | _, _, _ => False
theorem mul_lt_cells {i j sz k : Nat} (h : i < j) (hk : k < sz) : i * sz + k < j * sz := by
  have : (i + 1) * sz ≤ j * sz := Nat.mul_le_mul_right _ h
  rw [Nat.add_mul] at this
  omega
theorem run_stV {P : Program} {H : Heap} {w : World} (hH : HOk w H) {t : TypeId} {x d : D} {v u : Value} {K : Heap → Prop} (h : stV P H t x d K) (hx : D.is w H.others x v) (hd : D.is w H.others d u) :
    ∃ w' H', (Instr.storeAt t v u).run P w = .ok () w' ∧ HOk w' H' ∧ Ev H w H' w' ∧ K H' := by
  unfold stV at h
  split at h
  · rename_i T b o sz i k c hT hc
    obtain ⟨hsz, h⟩ := h
    split at h
    · rename_i ty o' sz' els hb
      obtain ⟨rfl, rfl, h⟩ := h
      split at h
      · rename_i el hel
        obtain ⟨hle, h⟩ := h
        simp only [D.is] at hx
        subst hx
        have hu := D.cells_is hd hc
        have hul := cellsAll_length hu
        have hus : u.cells.toList.length = u.cells.size := Array.length_toList
        obtain ⟨cs, fr, h1, h2, h3, h4⟩ := hH _ _ hb
        obtain ⟨hell, helc⟩ := rowsAt_get h4 i el hel
        have hilt : i < els.length := (List.getElem?_eq_some_iff.1 hel).1
        have hfit : o' + i * sz' + k + 0 + u.cells.toList.length ≤ cs.size := by
          have : (i + 1) * sz' ≤ els.length * sz' := Nat.mul_le_mul_right _ hilt
          rw [Nat.add_mul] at this
          omega
        obtain ⟨w', hrun, e1, e2, e3, e4, ho, cs', g1, g2, g3, g4⟩ := run_storeCells_spec (P := P) b ty fr u.cells.toList (o' + i * sz' + k) 0 w cs h1 h2 hfit (cellsAll_one hu)
        have hev : Ev H w (H.upd b (.row ty o' sz' (els.set i (putAt el k c)))) w' := ev_block (by rw [hb]; simp) e1 e2 e3 e4 ho (fun cs0 t0 fr0 h0 => by
          rw [h1] at h0
          injection h0 with h0
          injection h0 with a1 a2 a3
          subst a1 a2 a3
          exact ⟨cs', _, g1, g2⟩)
        refine ⟨w', _, ?_, hok_block hH hev ho ⟨cs', fr, g1, by rw [g2]; exact h2, by rw [List.length_set, g2]; exact h3, ?_⟩, hev, h⟩
        · simp only [Instr.storeAt, Instr.sureAddr, Sem.run_bind, Sem.run_pure, Result.andThen, storeVar, run_size hT]
          have : ¬ u.cells.size ≠ T.size := by
            have : u.cells.size = u.cells.toList.length := by simp
            omega
          rw [if_neg this]
          exact hrun
        · have cell' : ∀ j, w'.cell? ⟨b, j, none⟩ = cs'[j]? := fun j => cell_of_row w' b j cs' ty fr g1
          have cell0 : ∀ j, w.cell? ⟨b, j, none⟩ = cs[j]? := fun j => cell_of_row w b j cs ty fr h1
          have hne : ∀ j' : Nat, j' < o' + i * sz' + k ∨ o' + i * sz' + k + c.length ≤ j' → w'.cell? ⟨b, j', none⟩ = w.cell? ⟨b, j', none⟩ := fun j' hj => by
            rw [cell', cell0]
            exact g4 j' (by omega)
          refine rowsAt_of fun i' el' hi' => ?_
          rw [List.getElem?_set] at hi'
          by_cases e : i = i'
          · subst e
            rw [if_pos rfl] at hi'
            rw [if_pos hilt] at hi'
            injection hi' with hi'
            subst hi'
            refine ⟨by rw [putAt_length hle]; exact hell, ?_⟩
            obtain ⟨vs, h5, h6⟩ := cellsAt_vals helc
            have hvl := cellsAll_length h5
            have h5' := cellsAll_keep hev.kept _ h5
            have hu' := cellsAll_keep hev.kept _ hu
            refine cellsAt_of (vs := vs.take k ++ u.cells.toList ++ vs.drop (k + c.length)) (cellsAll_append (cellsAll_append (cellsAll_take k h5') hu') (cellsAll_drop _ h5')) fun j v hj => ?_
            rcases Nat.lt_or_ge j k with hjk | hjk
            · rw [hne _ (by omega)]
              apply h6
              rw [List.append_assoc, List.getElem?_append_left (by simp; omega), List.getElem?_take, if_pos hjk] at hj
              exact hj
            · rcases Nat.lt_or_ge j (k + c.length) with hjc | hjc
              · rw [cell', show o' + i * sz' + j = o' + i * sz' + k + 0 + (j - k) by omega]
                apply g3
                rw [List.append_assoc, List.getElem?_append_right (by simp; omega), List.getElem?_append_left (by simp; omega)] at hj
                rw [← hj]
                congr 1
                simp; omega
              · rw [hne _ (by omega)]
                apply h6
                rw [List.getElem?_append_right (by simp; omega), List.getElem?_drop] at hj
                rw [← hj]
                congr 1
                simp; omega
          · rw [if_neg e] at hi'
            obtain ⟨h5, h6⟩ := rowsAt_get h4 i' el' hi'
            refine ⟨h5, ?_⟩
            obtain ⟨vs, h7, h8⟩ := cellsAt_vals h6
            have hvl := cellsAll_length h7
            refine cellsAt_of (cellsAll_keep hev.kept _ h7) fun j v hj => ?_
            have hjl : j < sz' := by
              have := (List.getElem?_eq_some_iff.1 hj).1
              omega
            rw [hne _ ?_]
            · exact h8 j v hj
            · rcases Nat.lt_or_ge i' i with hlt | hge
              · have := mul_lt_cells hlt hjl
                omega
              · have hlt : i < i' := by omega
                have : (i + 1) * sz' ≤ i' * sz' := Nat.mul_le_mul_right _ hlt
                rw [Nat.add_mul] at this
                omega
      · exact h.elim
    · exact h.elim
  · exact h.elim
def bxV (H : Heap) (elem : TypeId) (d : D) (K : D → Heap → Prop) : Prop :=
  match d.cells with
  | some cs => ∀ b, H b = none → K (.ep b 0 cs.length 0 0) (H.upd b (.row elem 0 cs.length [cs]))
  | none => False
theorem run_bxV {P : Program} {H : Heap} {w : World} (hH : HOk w H) {elem : TypeId} {d : D} {v : Value} {K : D → Heap → Prop} (h : bxV H elem d K) (hd : D.is w H.others d v) :
    ∃ r d' w' H', (do pure (Value.pointer (some (← newVar elem v))) : Sem Value).run P w = .ok r w' ∧ D.is w' H'.others d' r ∧ HOk w' H' ∧ Ev H w H' w' ∧ K d' H' := by
  unfold bxV at h
  split at h
  · rename_i cs hc
    have hu := D.cells_is hd hc
    have hl := cellsAll_length hu
    refine ⟨.pointer (some ⟨w.heap.size, 0, none⟩), _, w.alloc (Obj.cells v.cells elem), _, ?_, ?_, ?_, ev_alloc _ _ hH, h w.heap.size (fresh_none hH)⟩
    · simp only [newVar, newRow, newObj, Sem.run_bind, Sem.run_pure, Result.andThen, Sem.run]
      rfl
    · simp only [D.is]; simp
    · have := row_alloc (els := [cs]) (vs := v.cells.toList) hH elem cs.length (by simpa using hu) (fun el hel => by simp at hel; rw [hel]) (by simp at hl ⊢; omega)
      simpa using this
  · exact h.elim
def alV (P : Program) (H : Heap) (elem : TypeId) (K : D → Heap → Prop) : Prop :=
  match tyi P elem with
  | some ⟨_, _, _, some zs⟩ => zs.all Value.oneCell' = true ∧ ∀ b, H b = none → K (.ep b 0 zs.length 0 0) (H.upd b (.row elem 0 zs.length [zs.map .val]))
  | _ => False
theorem run_zero {P : Program} {t : TypeId} {T : Ti} {zs : List Value} (hT : tyi P t = some T) (hz : T.zero = some zs) (w : World) : ∃ z, (zeroValue t).run P w = .ok z w ∧ z.cells.toList = zs := by
  obtain ⟨i, h1, h2, h3, h4, h5⟩ := run_info hT w
  rw [h4] at hz
  cases hi : i.zero with
  | none => rw [hi] at hz; simp at hz
  | some z =>
    rw [hi] at hz
    simp at hz
    refine ⟨z, ?_, hz⟩
    unfold zeroValue
    simp only [Sem.run_bind, h1, Result.andThen, hi, Sem.run_pure]
theorem run_alV {P : Program} {H : Heap} {w : World} (hH : HOk w H) {elem : TypeId} {K : D → Heap → Prop} (h : alV P H elem K) :
    ∃ r d' w' H', (Instr.alloc elem true (.tuple #[])).run P w = .ok r w' ∧ D.is w' H'.others d' r ∧ HOk w' H' ∧ Ev H w H' w' ∧ K d' H' := by
  unfold alV at h
  split at h
  · rename_i hT
    obtain ⟨h1, h⟩ := h
    rename_i zs
    obtain ⟨z, h2, h3⟩ := run_zero hT rfl w
    refine ⟨.pointer (some ⟨w.heap.size, 0, none⟩), _, w.alloc (Obj.cells z.cells elem), _, ?_, ?_, ?_, ev_alloc _ _ hH, h w.heap.size (fresh_none hH)⟩
    · simp only [Instr.alloc, Sem.run_bind, h2, Result.andThen, newVar, newRow, newObj, Sem.run_pure, Sem.run]
      rfl
    · simp only [D.is]; simp
    · have hu : cellsAll w H.others (zs.map .val) z.cells.toList := by rw [h3]; exact cellsAll_vals zs (fun v hv => (List.all_eq_true.1 h1) v hv)
      have := row_alloc (els := [zs.map .val]) (vs := z.cells.toList) hH elem zs.length (by simpa using hu) (fun el hel => by simp at hel; rw [hel]; simp) (by rw [h3]; simp)
      simpa using this
  · exact h.elim
def bldD (place : Nat → Option (Nat × Nat)) : List D → List (Nat × D) → Option (List D)
  | cs, [] => some cs
  | cs, (i, d) :: rest =>
    match place i, d.cells with
    | some (off, size), some c => if c.length = size ∧ off + c.length ≤ cs.length then bldD place (putAt cs off c) rest else none
    | _, _ => none
theorem foldl_set (off : Nat) : ∀ (vs : List Value) (j : Nat) (cs : Array Value), off + j + vs.length ≤ cs.size →
    ((vs.zipIdx j).foldl (fun cs (x : Value × Nat) => cs.setIfInBounds (off + x.2) x.1) cs).toList = cs.toList.take (off + j) ++ vs ++ cs.toList.drop (off + j + vs.length)
  | [], j, cs, h => by simp
  | v :: vs, j, cs, h => by
    simp only [List.zipIdx_cons, List.foldl_cons]
    rw [foldl_set off vs (j + 1) _ (by simp at h ⊢; omega)]
    have hlt : off + j < cs.toList.length := by simp at h ⊢; omega
    simp only [Array.toList_setIfInBounds, List.length_cons]
    have e1 : (cs.toList.set (off + j) v).take (off + (j + 1)) = cs.toList.take (off + j) ++ [v] := by
      rw [show off + (j + 1) = off + j + 1 by omega, List.take_add_one, List.getElem?_set_self hlt]
      rw [List.take_set_of_le (by omega)]
      rfl
    have e2 : (cs.toList.set (off + j) v).drop (off + (j + 1) + vs.length) = cs.toList.drop (off + j + (vs.length + 1)) := by
      rw [List.drop_set_of_lt (by omega)]
      congr 1
      omega
    rw [e1, e2]
    simp
theorem fill_one (off : Nat) (v : Value) (cs : Array Value) (h : off + v.cells.size ≤ cs.size) :
    (v.cells.zipIdx.foldl (fun cs (x : Value × Nat) => cs.setIfInBounds (off + x.2) x.1) cs).toList = cs.toList.take off ++ v.cells.toList ++ cs.toList.drop (off + v.cells.size) := by
  have := foldl_set off v.cells.toList 0 cs (by simpa using h)
  rw [← Array.foldl_toList]
  simpa using this
def partsIs (w : World) (S : Nat → Prop) : List (Nat × D) → List (Nat × Value) → Prop
  | [], vs => vs = []
  | (i, d) :: ds, vs => ∃ v us, vs = (i, v) :: us ∧ D.is w S d v ∧ partsIs w S ds us
theorem fill_bld {w : World} {S : Nat → Prop} {place : Nat → Option (Nat × Nat)} : ∀ {ds : List (Nat × D)} {vs : List (Nat × Value)} {cs r : List D} {us : Array Value}, partsIs w S ds vs → bldD place cs ds = some r → cellsAll w S cs us.toList →
    ∃ us', Instr.fill place us vs = some us' ∧ cellsAll w S r us'.toList
  | [], vs, cs, r, us, h, hb, hc => by
    simp only [partsIs] at h
    subst h
    simp only [bldD] at hb
    injection hb with hb
    subst hb
    exact ⟨us, rfl, hc⟩
  | (i, d) :: ds, vs, cs, r, us, h, hb, hc => by
    simp only [partsIs] at h
    obtain ⟨v, vs', rfl, h1, h2⟩ := h
    simp only [bldD] at hb
    split at hb
    · rename_i off size c hp hdc
      split at hb
      · rename_i hle
        have hu := D.cells_is h1 hdc
        have hl := cellsAll_length hu
        have hul := cellsAll_length hc
        have e1 : v.cells.toList.length = v.cells.size := Array.length_toList
        have e2 : us.toList.length = us.size := Array.length_toList
        simp only [Instr.fill, hp]
        have hn : ¬ (decide (v.cells.size ≠ size) || decide (off + v.cells.size > us.size)) = true := by
          simp; omega
        rw [if_neg hn]
        refine fill_bld h2 hb ?_
        have := fill_one off v us (by omega)
        rw [show (v.cells.zipIdx.foldl (fun cs (x : Value × Nat) => match x with | (c, j) => cs.setIfInBounds (off + j) c) us) = v.cells.zipIdx.foldl (fun cs (x : Value × Nat) => cs.setIfInBounds (off + x.2) x.1) us from rfl, this]
        unfold putAt
        rw [show off + c.length = off + v.cells.size by omega]
        exact cellsAll_append (cellsAll_append (cellsAll_take _ hc) hu) (cellsAll_drop _ hc)
      · cases hb
    · cases hb
def placesOf (P : Program) (t : TypeId) : Nat → Option (Nat × Nat) :=
  match tyi P t with
  | some ⟨.struct fs, _, _, _⟩ => fun i => match fs[i]? with
    | some (off, ft) => (match tyi P ft with
      | some T => some (off, T.size)
      | none => none)
    | none => none
  | some ⟨.array _ e, _, _, _⟩ => fun i => match tyi P e with
    | some E => some (i * E.size, E.size)
    | none => none
  | _ => fun _ => none
def allSized (P : Program) (t : TypeId) : Bool :=
  match tyi P t with
  | some ⟨.struct fs, _, _, _⟩ => fs.all fun f => (tyi P f.2).isSome
  | some ⟨.array _ e, _, _, _⟩ => (tyi P e).isSome
  | _ => false
def bdV (P : Program) (t : TypeId) (ds : List (Nat × D)) (K : D → Prop) : Prop :=
  match tyi P t with
  | some ⟨_, _, _, some zs⟩ => zs.all Value.oneCell' = true ∧ allSized P t = true ∧ (match bldD (placesOf P t) (zs.map .val) ds with
    | some cs => K (.agg cs)
    | none => False)
  | _ => False
theorem fill_ext {p q : Nat → Option (Nat × Nat)} : ∀ {vs : List (Nat × Value)} {us : Array Value}, (∀ x ∈ vs, p x.1 = q x.1) → Instr.fill p us vs = Instr.fill q us vs
  | [], _, _ => rfl
  | (i, v) :: vs, us, h => by
    simp only [Instr.fill]
    rw [← h (i, v) (by simp)]
    cases hp : p i with
    | none => rfl
    | some x =>
      obtain ⟨off, size⟩ := x
      simp only
      split
      · rfl
      · exact fill_ext fun x hx => h x (by simp [hx])
theorem mapM_ok {P : Program} {w : World} {α β : Type} (f : α → Sem β) (g : α → β) : ∀ (l : List α), (∀ x ∈ l, (f x).run P w = .ok (g x) w) → (l.mapM f).run P w = .ok (l.map g) w
  | [], _ => rfl
  | x :: l, h => by
    rw [List.mapM_cons]
    simp only [Sem.run_bind, h x (by simp), Result.andThen, mapM_ok f g l (fun y hy => h y (by simp [hy])), Sem.run_pure, List.map_cons]
theorem run_bdV {P : Program} {w : World} {S : Nat → Prop} {t : TypeId} {ds : List (Nat × D)} {vs : Array (Nat × Value)} {K : D → Prop} (h : bdV P t ds K) (hx : partsIs w S ds vs.toList) :
    ∃ u d, (Instr.build t vs).run P w = .ok u w ∧ D.is w S d u ∧ K d := by
  unfold bdV at h
  split at h
  · rename_i dd _ _ zs hT
    obtain ⟨h1, hall, h⟩ := h
    split at h
    · rename_i cs hcs
      obtain ⟨z, h2, h3⟩ := run_zero hT rfl w
      have hz : cellsAll w S (zs.map .val) z.cells.toList := by rw [h3]; exact cellsAll_vals zs (fun v hv => (List.all_eq_true.1 h1) v hv)
      obtain ⟨us, h4, h5⟩ := fill_bld hx hcs hz
      refine ⟨.agg us, .agg cs, ?_, by simp only [D.is]; exact ⟨us.toList, by simp, h5⟩, h⟩
      obtain ⟨d, i, a1, a2, a3⟩ := tyi_spec hT
      injection a3 with a3
      unfold Instr.build
      simp only [Sem.run_bind, h2, Result.andThen, run_under a1]
      cases d with
      | struct fs =>
        simp only [tdOf] at a3
        subst a3
        have hpl : (fs.mapM fun f => (do pure (f.offset, ← sizeOf f.type) : Sem (Nat × Nat))).run P w = .ok (fs.map fun f => (f.offset, P.cellsOf f.type)) w := by
          rw [Array.mapM_eq_mapM_toList]
          have := mapM_ok (P := P) (w := w) (fun f : Field => (do pure (f.offset, ← sizeOf f.type) : Sem (Nat × Nat))) (fun f => (f.offset, P.cellsOf f.type)) fs.toList (fun f hf => by
            have hs : (tyi P f.type).isSome = true := by
              unfold allSized at hall
              rw [hT] at hall
              simp only [List.all_map, List.all_eq_true] at hall
              exact hall f hf
            cases hft : tyi P f.type with
            | none => rw [hft] at hs; cases hs
            | some T =>
              obtain ⟨i', b1, b2, b3, b4, b5⟩ := run_info hft w
              simp only [Sem.run_bind, run_size hft, Result.andThen, Sem.run_pure, Program.cellsOf, b5, b2]
              rfl)
          simp only [map_eq_pure_bind, Sem.run_bind, this, Result.andThen, Sem.run_pure]
          congr 1
          exact Array.ext' (by simp)
        simp only [hpl, Sem.run_bind, Result.andThen]
        have e : Instr.fill (fun i => (fs.map fun f => (f.offset, P.cellsOf f.type))[i]?) z.cells vs.toList = Instr.fill (placesOf P t) z.cells vs.toList := by
          refine fill_ext fun x _ => ?_
          unfold placesOf
          rw [hT]
          simp only [List.getElem?_map, Array.getElem?_map, Array.getElem?_toList]
          cases hf : fs[x.1]? with
          | none => rfl
          | some f =>
            have hs : (tyi P f.type).isSome = true := by
              unfold allSized at hall
              rw [hT] at hall
              simp only [List.all_map, List.all_eq_true] at hall
              exact hall f (by rw [Array.mem_toList_iff]; exact Array.mem_of_getElem? hf)
            simp only [Option.map_some]
            cases hft : tyi P f.type with
            | none => rw [hft] at hs; cases hs
            | some T =>
              obtain ⟨i', b1, b2, b3, b4, b5⟩ := run_info hft w
              simp only [Program.cellsOf, b5, b2]
              rfl
        rw [e, h4]
        rfl
      | array n el =>
        cases hE : tyi P el with
        | none =>
          exfalso
          unfold allSized at hall
          rw [hT, a3] at hall
          simp only [tdOf, hE] at hall
          cases hall
        | some E =>
          simp only [Sem.run_bind, run_size hE, Result.andThen]
          have e : Instr.fill (fun i => some (i * E.size, E.size)) z.cells vs.toList = Instr.fill (placesOf P t) z.cells vs.toList := by
            refine fill_ext fun x _ => ?_
            unfold placesOf
            rw [hT, a3]
            simp only [tdOf, hE]
          rw [e, h4]
          rfl
      | _ =>
        exfalso
        unfold allSized at hall
        rw [hT, a3] at hall
        cases hall
    · exact h.elim
  · exact h.elim
theorem rowsAt_vals {w : World} {S : Nat → Prop} {b sz : Nat} : ∀ {els : List (List D)} {o : Nat}, rowsAt w S b sz o els → ∃ vs, cellsAll w S els.flatten vs ∧ vs.length = els.length * sz ∧ ∀ (j : Nat) (v : Value), vs[j]? = some v → w.cell? ⟨b, o + j, none⟩ = some v
  | [], _, _ => ⟨[], by simp [cellsAll], by simp, fun j v h => by simp at h⟩
  | e :: els, o, h => by
    simp only [rowsAt] at h
    obtain ⟨h1, h2, h3⟩ := h
    obtain ⟨vs, h4, h5⟩ := cellsAt_vals h2
    obtain ⟨us, h6, h7, h8⟩ := rowsAt_vals h3
    have hl := cellsAll_length h4
    refine ⟨vs ++ us, by rw [List.flatten_cons]; exact cellsAll_append h4 h6, by simp [h7, Nat.add_mul]; omega, fun j v hj => ?_⟩
    rcases Nat.lt_or_ge j vs.length with hlt | hge
    · rw [List.getElem?_append_left hlt] at hj; exact h5 j v hj
    · rw [List.getElem?_append_right hge] at hj
      have := h8 _ v hj
      rwa [show o + sz + (j - vs.length) = o + j by omega] at this
theorem flat_get {sz : Nat} : ∀ {els : List (List D)} {i : Nat} {el : List D}, (∀ e ∈ els, e.length = sz) → els[i]? = some el → (els.flatten.drop (i * sz)).take sz = el
  | [], i, el, _, h => by simp at h
  | e :: els, 0, el, hs, h => by
    simp at h
    subst h
    have := hs e (by simp)
    simp [← this]
  | e :: els, i + 1, el, hs, h => by
    have h1 := hs e (by simp)
    have h2 := flat_get (fun x hx => hs x (by simp [hx])) (show els[i]? = some el by simpa using h)
    rw [List.flatten_cons, Nat.add_mul, Nat.one_mul, List.drop_append, List.drop_of_length_le (by omega), h1, List.nil_append]
    simpa [Nat.add_sub_cancel] using h2
theorem rowsAt_block {w : World} {S : Nat → Prop} {b sz o : Nat} {els : List (List D)} {vs : List Value} (hs : ∀ e ∈ els, e.length = sz) (hv : cellsAll w S els.flatten vs) (hc : ∀ (j : Nat) (v : Value), vs[j]? = some v → w.cell? ⟨b, o + j, none⟩ = some v) : rowsAt w S b sz o els :=
  rowsAt_of fun i el hi => ⟨hs el (List.mem_of_getElem? hi), by
    have h1 := cellsAll_take sz (cellsAll_drop (i * sz) hv)
    rw [flat_get hs hi] at h1
    refine cellsAt_of h1 fun j v hj => ?_
    rw [List.getElem?_take] at hj
    split at hj
    · rw [List.getElem?_drop] at hj
      rw [Nat.add_assoc]
      exact hc _ v hj
    · cases hj⟩
theorem rowsAt_sized {w : World} {S : Nat → Prop} {b sz o : Nat} {els : List (List D)} (h : rowsAt w S b sz o els) : ∀ e ∈ els, e.length = sz := fun e he => by
  obtain ⟨i, hi⟩ := List.getElem?_of_mem he
  exact (rowsAt_get h i e hi).1
def rowsD (sz : Nat) : List (Nat × D) → Nat → Option (List (List D))
  | [], _ => some []
  | (i, d) :: ds, k => if i = k then (match d.cells, rowsD sz ds (k + 1) with
    | some c, some els => if c.length = sz then some (c :: els) else none
    | _, _ => none) else none
def bsV (P : Program) (H : Heap) (t : TypeId) (len : Nat) (ds : List (Nat × D)) (K : D → Heap → Prop) : Prop :=
  match tyi P t with
  | some ⟨.slice e, _, _, _⟩ => (match tyi P e with
    | some ⟨_, sz, _, some zs⟩ => zs.length = sz ∧ ds.length = len ∧ len * sz ≤ 16777216 ∧ (match rowsD sz ds 0 with
      | some els => ∀ b, H b = none → K (.os b 0 sz 0 len) (H.upd b (.row e 0 sz els))
      | none => False)
    | _ => False)
  | _ => False
theorem rowsD_spec {w : World} {S : Nat → Prop} {sz : Nat} : ∀ {ds : List (Nat × D)} {k : Nat} {els : List (List D)} {vs : List (Nat × Value)}, rowsD sz ds k = some els → partsIs w S ds vs →
    els.length = ds.length ∧ (∀ e ∈ els, e.length = sz) ∧ ∀ (us : Array Value), (k + ds.length) * sz ≤ us.size → ∃ us', Instr.fill (fun i => some (i * sz, sz)) us vs = some us' ∧ us'.size = us.size ∧ us'.toList.take (k * sz) = us.toList.take (k * sz) ∧ cellsAll w S els.flatten ((us'.toList.drop (k * sz)).take (ds.length * sz))
  | [], k, els, vs, h, hp => by
    simp only [rowsD] at h
    injection h with h
    subst h
    simp only [partsIs] at hp
    subst hp
    exact ⟨rfl, by simp, fun us _ => ⟨us, rfl, rfl, rfl, by simp [cellsAll]⟩⟩
  | (i, d) :: ds, k, els, vs, h, hp => by
    simp only [rowsD] at h
    split at h
    · rename_i hik
      subst hik
      split at h
      · rename_i c els' hc hr
        split at h
        · rename_i hcl
          injection h with h
          subst h
          simp only [partsIs] at hp
          obtain ⟨v, vs', rfl, h1, h2⟩ := hp
          obtain ⟨h3, h4, h5⟩ := rowsD_spec hr h2
          have hu := D.cells_is h1 hc
          have hl := cellsAll_length hu
          have e1 : v.cells.toList.length = v.cells.size := Array.length_toList
          refine ⟨by simp [h3], by simpa [hcl] using h4, fun us hus => ?_⟩
          have hexp : (i + (ds.length + 1)) * sz = i * sz + sz + ds.length * sz := by rw [Nat.add_mul, Nat.add_mul]; omega
          simp only [List.length_cons, hexp] at hus
          have hfl := fill_one (i * sz) v us (by omega)
          have hsz2 : (v.cells.zipIdx.foldl (fun cs (x : Value × Nat) => cs.setIfInBounds (i * sz + x.2) x.1) us).size = us.size := by
            rw [← Array.length_toList, hfl]
            simp
            omega
          obtain ⟨us', h6, h7, h8, h9⟩ := h5 (v.cells.zipIdx.foldl (fun cs (x : Value × Nat) => cs.setIfInBounds (i * sz + x.2) x.1) us) (by
            rw [hsz2, Nat.add_mul, Nat.add_mul]; omega)
          have hk1 : (i + 1) * sz = i * sz + sz := by rw [Nat.add_mul]; omega
          rw [hk1] at h8 h9
          refine ⟨us', ?_, by rw [h7, hsz2], ?_, ?_⟩
          · simp only [Instr.fill]
            have hn : ¬ (decide (v.cells.size ≠ sz) || decide (i * sz + v.cells.size > us.size)) = true := by simp; omega
            rw [if_neg hn]
            exact h6
          · have := congrArg (List.take (i * sz)) h8
            rw [List.take_take, List.take_take, hfl] at this
            rw [show min (i * sz) (i * sz + sz) = i * sz by omega] at this
            rw [this, List.append_assoc, List.take_append_of_le_length (by simp; omega), List.take_take, Nat.min_self]
          · have hmid : (us'.toList.drop (i * sz)).take sz = v.cells.toList := by
              have := congrArg (fun l => (l.drop (i * sz))) h8
              simp only [List.drop_take] at this
              rw [show i * sz + sz - i * sz = sz by omega, hfl] at this
              rw [this, List.append_assoc, List.drop_append, List.length_take, Array.length_toList]
              rw [List.drop_of_length_le (by simp; omega), show i * sz - min (i * sz) us.size = 0 by omega, List.nil_append, List.drop_zero, List.take_append_of_le_length (by omega), List.take_of_length_le (by omega)]
            have hsplit : (us'.toList.drop (i * sz)).take ((ds.length + 1) * sz) = v.cells.toList ++ (us'.toList.drop (i * sz + sz)).take (ds.length * sz) := by
              rw [← hmid, Nat.add_mul, Nat.one_mul, Nat.add_comm (ds.length * sz) sz, List.take_add, List.drop_drop]
            rw [List.length_cons, hsplit, List.flatten_cons]
            exact cellsAll_append hu h9
        · cases h
      · cases h
    · cases h
theorem run_bsV {P : Program} {H : Heap} {w : World} (hH : HOk w H) {t : TypeId} {len : Nat} {ds : List (Nat × D)} {vs : Array (Nat × Value)} {K : D → Heap → Prop} (h : bsV P H t len ds K) (hx : partsIs w H.others ds vs.toList) :
    ∃ r d' w' H', (Instr.buildSlice t len vs).run P w = .ok r w' ∧ D.is w' H'.others d' r ∧ HOk w' H' ∧ Ev H w H' w' ∧ K d' H' := by
  unfold bsV at h
  split at h
  · rename_i e _ _ _ hT
    split at h
    · rename_i dE sz byE zs hE
      obtain ⟨hzl, hlen, hle, h⟩ := h
      split at h
      · rename_i els hels
        obtain ⟨d, i, a1, a2, a3⟩ := tyi_spec hT
        injection a3 with a3
        cases d <;> simp [tdOf] at a3
        subst a3
        obtain ⟨z, hz, hzc⟩ := run_zero hE rfl w
        obtain ⟨h1, h2, h3⟩ := rowsD_spec hels hx
        obtain ⟨zero, hzero⟩ : ∃ zero : Array Value, zero = if len * sz = 0 then #[] else z.cells := ⟨_, rfl⟩
        obtain ⟨us', h4, h5, _, h6⟩ := h3 ((Array.range (len * sz)).map (zero[· % zero.size]!)) (by simp [hlen])
        rw [Nat.zero_mul, List.drop_zero, hlen] at h6
        have h7 : us'.toList.take (len * sz) = us'.toList := List.take_of_length_le (by rw [Array.length_toList, h5]; simp)
        rw [h7] at h6
        refine ⟨.slice (some ⟨w.heap.size, 0, none⟩) len len, _, w.alloc (Obj.cells us' e), _, ?_, ?_, ?_, ev_alloc _ _ hH, h w.heap.size (fresh_none hH)⟩
        · unfold Instr.buildSlice
          simp only [Sem.run_bind, run_under a1, Result.andThen, run_size hE]
          rw [if_neg (by omega)]
          by_cases h0 : len * sz = 0
          · rw [if_pos h0] at hzero ⊢
            subst hzero
            simp only [Sem.run_bind, Sem.run_pure, Result.andThen, h4, newRow, newObj, Sem.run]
            rfl
          · rw [if_neg h0] at hzero ⊢
            subst hzero
            simp only [Sem.run_bind, hz, Sem.run_pure, Result.andThen, h4, newRow, newObj, Sem.run]
            rfl
        · simp only [D.is]
          refine ⟨_, _, rfl, Nat.le_refl _, ?_⟩
          rcases Nat.eq_zero_or_pos len with h0 | h0
          · exact .inl h0
          · right
            refine ⟨by simp, us', e, (0, 0), heap_alloc_new w _, ?_⟩
            rw [h5]
            simp
        · have := row_alloc (vs := us'.toList) hH e sz els h6 h2 (by rw [h1, hlen, Array.length_toList, h5]; simp)
          simpa using this
      · exact h.elim
    · exact h.elim
  · exact h.elim
set_option linter.unusedSimpArgs false
def mkV (P : Program) (H : Heap) (t : TypeId) (n c : D) (K : D → Heap → Prop) : Prop :=
  match n, c, tyi P t with
  | .val (.int _ l), .val (.int _ c), some ⟨.slice e, _, _, _⟩ => (match tyi P e with
    | some ⟨_, sz, by_, some zs⟩ => zs.length = sz ∧ zs.all Value.oneCell' = true ∧ 0 ≤ l ∧ l ≤ c ∧ (by_ : Int) * c ≤ 281474976710656 ∧ c ≤ 9223372036854775807 ∧
      ∀ b, H b = none → K (.os b 0 sz 0 l.toNat) (H.upd b (.row e 0 sz (List.replicate l.toNat (zs.map .val))))
    | _ => False)
  | _, _, _ => False
theorem run_mkV {P : Program} {H : Heap} {w : World} (hH : HOk w H) {t : TypeId} {n c : D} {v u : Value} {K : D → Heap → Prop} (h : mkV P H t n c K) (hn : D.is w H.others n v) (hc : D.is w H.others c u) :
    ∃ r d' w' H', (Instr.makeSlice t v u).run P w = .ok r w' ∧ D.is w' H'.others d' r ∧ HOk w' H' ∧ Ev H w H' w' ∧ K d' H' := by
  unfold mkV at h
  split at h
  · rename_i kl l kc cc e _ _ _ hT
    have e1 := is_val hn
    have e2 := is_val hc
    subst e1 e2
    split at h
    · rename_i dE sz byE zs hE
      obtain ⟨hzl, hone, h0, hlc, hb, h63, h⟩ := h
      obtain ⟨d, i, a1, a2, a3⟩ := tyi_spec hT
      injection a3 with a3
      cases d <;> simp [tdOf] at a3
      subst a3
      obtain ⟨i', b1, b2, b3, b4, b5⟩ := run_info hE w
      simp only at b2 b3 b4
      cases hz : i'.zero with
      | none => rw [hz] at b4; cases b4
      | some z =>
        rw [hz] at b4
        simp at b4
        have hr := run_make (P := P) w t e i' z a1 b5 hz kl kc l cc h0 hlc (by rw [← b3]; exact hb) h63
        refine ⟨_, _, _, _, hr, ?_, ?_, ev_alloc _ _ hH, h w.heap.size (fresh_none hH)⟩
        · simp only [D.is]
          refine ⟨_, _, rfl, by omega, ?_⟩
          right
          refine ⟨by simp, _, e, (0, 0), heap_alloc_new w _, ?_⟩
          rw [size_madeCells, b2]
          simp
        · refine hH.alloc ⟨_, (0, 0), heap_alloc_new w _, free0 _, ?_, ?_⟩
          · rw [size_madeCells, List.length_replicate, b2, Nat.zero_add]
            exact Nat.mul_le_mul_right _ (by omega)
          · refine rowsAt_of fun j el hj => ?_
            rw [List.getElem?_replicate] at hj
            split at hj
            · rename_i hjl
              injection hj with hj
              subst hj
              refine ⟨by simp [hzl], ?_⟩
              refine cellsAt_of (cellsAll_vals zs (fun v hv => (List.all_eq_true.1 hone) v hv)) fun q v hq => ?_
              have hqz : q < sz := by have := (List.getElem?_eq_some_iff.1 hq).1; omega
              rw [cell_of_row _ _ _ _ _ _ (heap_alloc_new w _)]
              have hlt : 0 + j * sz + q < cc.toNat * i'.size := by
                rw [← b2, Nat.zero_add]
                exact mul_lt_cells (by omega) hqz
              unfold madeCells
              rw [Array.getElem?_map, Array.getElem?_range, if_pos hlt]
              have hzsz : z.cells.size = sz := by rw [← Array.length_toList, ← b4]; exact hzl
              simp only [Option.map_some]
              rw [hzsz, Nat.zero_add, Nat.add_comm, Nat.add_mul_mod_self_right, Nat.mod_eq_of_lt hqz]
              rw [b4] at hq
              rw [← hq]
              have : q < z.cells.size := by omega
              simp [this]
            · cases hj
    · exact h.elim
  · exact h.elim
def bdN (dflt : Int) : Option D → Option Int
  | none => some dflt
  | some (.val (.int _ i)) => some i
  | _ => none
def optIs (w : World) (S : Nat → Prop) (d : Option D) (v : Option Value) : Prop := match d, v with | some d, some v => D.is w S d v | none, none => True | _, _ => False
theorem bdN_spec {w : World} {S : Nat → Prop} {dflt i : Int} {d : Option D} {v : Option Value} (h : bdN dflt d = some i) (hv : optIs w S d v) :
    (d = none ∧ v = none ∧ i = dflt) ∨ ∃ k, v = some (.int k i) := by
  cases d with
  | none => cases v with
    | none => simp only [bdN] at h; injection h with h; exact .inl ⟨rfl, rfl, h.symm⟩
    | some v => exact hv.elim
  | some d => cases v with
    | none => exact hv.elim
    | some v =>
      simp only [optIs] at hv
      cases d with
      | val u =>
        have e := is_val hv
        subst e
        cases v with
        | int k n => simp only [bdN] at h; injection h with h; subst h; exact .inr ⟨k, rfl⟩
        | _ => simp [bdN] at h
      | _ => simp [bdN] at h
theorem run_bounds {P : Program} {w : World} {isSl : Bool} {len cap : Nat} {lo hi : Option Value} {l h : Int} (hl : (lo = none ∧ l = 0) ∨ ∃ k, lo = some (.int k l)) (hh : (hi = none ∧ h = len) ∨ ∃ k, hi = some (.int k h)) (h0 : 0 ≤ l) (h1 : l ≤ h) (h2 : h ≤ cap) :
    (Instr.sliceBounds isSl len cap lo hi none).run P w = .ok (l.toNat, h.toNat, cap) w := by
  have sb : ∀ (k : IntKind) (i : Int) (y : Nat) code, 0 ≤ i → i ≤ y → (Instr.sliceBound (.int k i) y code).run P w = .ok i.toNat w := fun k i y code a b => by
    unfold Instr.sliceBound
    simp only [Sem.run_bind, asIntOf, Sem.run_pure, Result.andThen]
    rw [if_pos ⟨a, b⟩]
    rfl
  have hcast : ((h.toNat : Nat) : Int) = h := Int.toNat_of_nonneg (by omega)
  have hlast : ∀ code, (match lo with | some v => Instr.sliceBound v h.toNat code | none => pure 0 : Sem Nat).run P w = .ok l.toNat w := fun code => by
    rcases hl with ⟨rfl, rfl⟩ | ⟨k, rfl⟩
    · rfl
    · exact sb k l _ _ h0 (by omega)
  unfold Instr.sliceBounds
  rcases hh with ⟨rfl, rfl⟩ | ⟨k, rfl⟩
  · rw [Int.toNat_natCast] at hlast ⊢
    simp only [Sem.run_bind, Sem.run_pure, Result.andThen, Option.isSome_none, Bool.false_eq_true, if_false]
    have := hlast .sliceB
    rcases hl with ⟨rfl, rfl⟩ | ⟨k', rfl⟩
    · rfl
    · simp only [Sem.run_bind] at this ⊢
      rw [this]
      rfl
  · simp only [Sem.run_bind, Sem.run_pure, Result.andThen, sb k h cap _ (by omega) h2, Option.isSome_none, Bool.false_eq_true, if_false]
    have := hlast .sliceB
    rcases hl with ⟨rfl, rfl⟩ | ⟨k', rfl⟩
    · rfl
    · simp only [Sem.run_bind] at this ⊢
      rw [this]
      rfl
def chunk (sz : Nat) : Nat → List D → List (List D)
  | 0, _ => []
  | k + 1, cs => cs.take sz :: chunk sz k (cs.drop sz)
theorem chunk_len (sz : Nat) : ∀ (k : Nat) (cs : List D), (chunk sz k cs).length = k
  | 0, _ => rfl
  | k + 1, cs => by rw [chunk, List.length_cons, chunk_len sz k]
def slV (P : Program) (H : Heap) (t : TypeId) (x : D) (lo hi mx : Option D) (K : D → Prop) : Prop :=
  match tyi P t with
  | some ⟨.slice e, _, _, _⟩ => (match tyi P e, mx with
    | some E, none => (match x with
      | .seq sz els => (match bdN 0 lo, bdN els.length hi with
        | some l, some h => sz = E.size ∧ 0 ≤ l ∧ l ≤ h ∧ h ≤ (els.length : Int) ∧ K (.seq sz ((els.take h.toNat).drop l.toNat))
        | _, _ => False)
      | .os b o sz k n => (match bdN 0 lo, bdN n hi with
        | some l, some h => sz = E.size ∧ 0 ≤ l ∧ l ≤ h ∧ h ≤ (n : Int) ∧ K (.os b o sz (k + l.toNat) (h.toNat - l.toNat))
        | _, _ => False)
      | .val (.slice none 0 0) => (match bdN 0 lo, bdN 0 hi with
        | some l, some h => l = 0 ∧ h = 0 ∧ K (.val (.slice none 0 0))
        | _, _ => False)
      | .emp => (match bdN 0 lo, bdN 0 hi with
        | some l, some h => l = 0 ∧ h = 0 ∧ K .emp
        | _, _ => False)
      | .val (.slice (some ⟨b, o, none⟩) n c) => (match bdN 0 lo, bdN n hi with
        | some l, some h => l = 0 ∧ 0 ≤ h ∧ h ≤ (n : Int) ∧ n ≤ c ∧ K (.val (.slice (some ⟨b, o, none⟩) h.toNat c))
        | _, _ => False)
      | _ => False)
    | some E, some (.val (.int _ 0)) => (match bdN 0 lo, hi with
      | some 0, some (.val (.int _ 0)) => (match x with
        | .seq _ _ | .os _ _ _ _ _ | .emp => K .emp
        | .val (.slice none _ _) => K (.val (.slice none 0 0))
        | _ => False)
      | _, _ => False)
    | _, _ => False)
  | some ⟨.string, _, _, _⟩ => (match x, mx with
    | .val (.string s), none => (match bdN 0 lo, bdN s.size hi with
      | some l, some h => 0 ≤ l ∧ l ≤ h ∧ h ≤ (s.size : Int) ∧ K (.val (.string (s.extract l.toNat h.toNat)))
      | _, _ => False)
    | _, _ => False)
  | some ⟨.array n e, _, _, _⟩ => (match tyi P e, mx, x with
    | some E, none, .rp cs => (match bdN 0 lo, bdN n hi with
      | some l, some h => if E.size = 1 then n ≤ cs.length ∧ 0 ≤ l ∧ l ≤ h ∧ h ≤ (n : Int) ∧ K (.seq 1 (((cs.take h.toNat).drop l.toNat).map fun c => [c]))
        else n * E.size ≤ cs.length ∧ 0 ≤ l ∧ l ≤ h ∧ h ≤ (n : Int) ∧ K (.seq E.size (chunk E.size (h.toNat - l.toNat) (cs.drop (l.toNat * E.size))))
      | _, _ => False)
    | _, _, _ => False)
  | _ => False
theorem rowsAt_ones {w : World} {S : Nat → Prop} {b : Nat} : ∀ {cs : List D} {o : Nat}, cellsAt w S b o cs → rowsAt w S b 1 o (cs.map fun c => [c])
  | [], _, _ => by simp only [List.map_nil, rowsAt]
  | c :: cs, o, h => by
    simp only [cellsAt] at h
    simp only [List.map_cons, rowsAt, cellsAt]
    exact ⟨rfl, ⟨h.1, trivial⟩, rowsAt_ones h.2⟩
theorem rowsAt_chunk {w : World} {S : Nat → Prop} {b sz : Nat} : ∀ {k : Nat} {cs : List D} {o : Nat}, cellsAt w S b o cs → k * sz ≤ cs.length → rowsAt w S b sz o (chunk sz k cs)
  | 0, _, _, _, _ => by simp only [chunk, rowsAt]
  | k + 1, cs, o, h, hl => by
    rw [Nat.succ_mul] at hl
    simp only [chunk, rowsAt]
    refine ⟨by rw [List.length_take]; omega, cellsAt_take h _, rowsAt_chunk (cellsAt_drop h _) (by rw [List.length_drop]; omega)⟩
theorem run_slV {P : Program} {H : Heap} {w : World} {t : TypeId} {x : D} {lo hi mx : Option D} {v : Value} {vlo vhi vmx : Option Value} {K : D → Prop} (h : slV P H t x lo hi mx K) (hx : D.is w H.others x v)
    (hlo : optIs w H.others lo vlo) (hhi : optIs w H.others hi vhi) (hmx : optIs w H.others mx vmx) : ∃ u d, (Instr.sliceAt t v vlo vhi vmx).run P w = .ok u w ∧ D.is w H.others d u ∧ K d := by
  have low : ∀ {l : Int}, bdN 0 lo = some l → (vlo = none ∧ l = 0) ∨ ∃ k, vlo = some (.int k l) := fun hb => by
    rcases bdN_spec hb hlo with ⟨_, h1, h2⟩ | h1
    · exact .inl ⟨h1, h2⟩
    · exact .inr h1
  have high : ∀ {m h : Int}, bdN m hi = some h → (vhi = none ∧ h = m) ∨ ∃ k, vhi = some (.int k h) := fun hb => by
    rcases bdN_spec hb hhi with ⟨_, h1, h2⟩ | h1
    · exact .inl ⟨h1, h2⟩
    · exact .inr h1
  unfold slV at h
  split at h
  · rename_i e _ _ _ hT
    obtain ⟨dT, iT, a1, a2, a3⟩ := tyi_spec hT
    injection a3 with a3
    cases dT <;> simp [tdOf] at a3
    subst a3
    split at h
    · rename_i E hE
      cases vmx with
      | some _ => exact hmx.elim
      | none =>
      have key : ∀ {A : Option Addr} {n c : Nat} {l hh : Int}, ((vlo = none ∧ l = 0) ∨ ∃ k, vlo = some (.int k l)) → ((vhi = none ∧ hh = n) ∨ ∃ k, vhi = some (.int k hh)) → 0 ≤ l → l ≤ hh → hh ≤ n → n ≤ c →
          (Instr.sliceAt t (.slice A n c) vlo vhi none).run P w = .ok (.slice (if c = l.toNat then A else A.map (·.add (l.toNat * E.size))) (hh.toNat - l.toNat) (c - l.toNat)) w := fun {A n c l hh} h1 h2 h3 h4 h5 h6 => by
        unfold Instr.sliceAt
        simp only [Sem.run_bind, run_under a1, Result.andThen, Instr.slice, run_bounds (P := P) (w := w) (isSl := true) (len := n) (cap := c) h1 h2 h3 h4 (by omega), run_size hE, Sem.run_pure]
      split at h
      · rename_i sz els
        split at h
        · rename_i l hh hbl hbh
          obtain ⟨rfl, h0, h1, h2, h⟩ := h
          simp only [D.is] at hx
          obtain ⟨A, c, rfl, h3, h4⟩ := hx
          refine ⟨_, _, key (low hbl) (high hbh) h0 h1 h2 h3, ?_, h⟩
          simp only [D.is]
          have hlen : ((els.take hh.toNat).drop l.toNat).length = hh.toNat - l.toNat := by rw [List.length_drop, List.length_take]; omega
          refine ⟨_, _, by rw [hlen], by rw [hlen]; omega, ?_⟩
          rcases h4 with rfl | ⟨b, o, rfl, h5, h6, h7⟩
          · left; simp
          · by_cases hcl : c = l.toNat
            · left
              apply List.eq_nil_of_length_eq_zero
              rw [hlen]; omega
            · right
              rw [if_neg hcl]
              exact ⟨b, o + l.toNat * E.size, by rw [Option.map_some, Addr.add_lit], h5, h6, rowsAt_drop (rowsAt_take h7 _) _⟩
        · exact h.elim
      · rename_i b o sz k n
        split at h
        · rename_i l hh hbl hbh
          obtain ⟨rfl, h0, h1, h2, h⟩ := h
          simp only [D.is] at hx
          obtain ⟨A, c, rfl, h3, h4⟩ := hx
          refine ⟨_, _, key (low hbl) (high hbh) h0 h1 h2 h3, ?_, h⟩
          simp only [D.is]
          refine ⟨_, _, rfl, by omega, ?_⟩
          by_cases hcl : c = l.toNat
          · left; omega
          · right
            rcases h4 with h4 | ⟨rfl, cs, ty, fr, h5, h6⟩
            · omega
            · rw [if_neg hcl, Option.map_some, Addr.add_lit, Nat.add_assoc, ← Nat.add_mul]
              exact ⟨rfl, cs, ty, fr, h5, by rw [show k + l.toNat + (c - l.toNat) = k + c by omega]; exact h6⟩
        · exact h.elim
      · split at h
        · rename_i l hh hbl hbh
          obtain ⟨rfl, rfl, h⟩ := h
          have e1 := is_val hx
          subst e1
          refine ⟨_, _, key (n := 0) (low hbl) (high hbh) (by omega) (by omega) (by omega) (by omega), ?_, h⟩
          simp only [D.is]
          rfl
        · exact h.elim
      · split at h
        · rename_i l hh hbl hbh
          obtain ⟨rfl, rfl, h⟩ := h
          simp only [D.is] at hx
          obtain ⟨A, rfl⟩ := hx
          refine ⟨_, _, key (n := 0) (low hbl) (high hbh) (by omega) (by omega) (by omega) (by omega), ?_, h⟩
          simp only [D.is]
          exact ⟨_, rfl⟩
        · exact h.elim
      · split at h
        · rename_i l hh hbl hbh
          obtain ⟨rfl, h0, h1, h2, h⟩ := h
          have e1 := is_val hx
          subst e1
          refine ⟨_, _, key (low hbl) (high hbh) (by omega) h0 h1 h2, ?_, h⟩
          have ea : ∀ (b o : Nat), (if 0 = (0 : Int).toNat then some (⟨b, o, none⟩ : Addr) else none) = some ⟨b, o, none⟩ := fun _ _ => rfl
          simp only [D.is, Int.toNat_zero, Nat.sub_zero, Nat.zero_mul, Option.map_some, Addr.add_lit, Nat.add_zero, ite_self]
        · exact h.elim
      · exact h.elim
    · rename_i E _ _ hE
      cases vmx with
      | none => exact hmx.elim
      | some vm =>
      simp only [optIs, D.is] at hmx
      subst hmx
      split at h
      · rename_i k0 hbl
        cases vhi with
        | none => exact hhi.elim
        | some vh =>
        simp only [optIs, D.is] at hhi
        subst hhi
        have hl := low hbl
        have sb : ∀ (k : IntKind) (y : Nat) code, (Instr.sliceBound (.int k 0) y code).run P w = .ok 0 w := fun k y code => by
          unfold Instr.sliceBound
          simp only [Sem.run_bind, asIntOf, Sem.run_pure, Result.andThen]
          rw [if_pos ⟨by omega, by omega⟩]
          rfl
        have key : ∀ {km : IntKind} {A : Option Addr} {n c : Nat}, (Instr.sliceAt t (.slice A n c) vlo (some (.int k0 0)) (some (.int km 0))).run P w = .ok (.slice A 0 0) w := fun {km A n c} => by
          unfold Instr.sliceAt
          simp only [Sem.run_bind, run_under a1, Result.andThen, Instr.slice, Instr.sliceBounds, sb, Sem.run_pure]
          rcases hl with ⟨rfl, _⟩ | ⟨k', rfl⟩
          · simp only [Sem.run_pure, run_size hE]
            rfl
          · simp only [sb, Sem.run_pure, run_size hE]
            rfl
        split at h
        · simp only [D.is] at hx
          obtain ⟨A, c, rfl, _⟩ := hx
          exact ⟨_, _, key, by simp only [D.is]; exact ⟨_, rfl⟩, h⟩
        · simp only [D.is] at hx
          obtain ⟨A, c, rfl, _⟩ := hx
          exact ⟨_, _, key, by simp only [D.is]; exact ⟨_, rfl⟩, h⟩
        · simp only [D.is] at hx
          obtain ⟨A, rfl⟩ := hx
          exact ⟨_, _, key, by simp only [D.is]; exact ⟨_, rfl⟩, h⟩
        · have e1 := is_val hx
          subst e1
          exact ⟨_, _, key, by simp only [D.is], h⟩
        · exact h.elim
      · exact h.elim
    · exact h.elim
  · rename_i hT
    obtain ⟨dT, iT, a1, a2, a3⟩ := tyi_spec hT
    injection a3 with a3
    cases dT <;> simp [tdOf] at a3
    split at h
    · rename_i s
      cases vmx with
      | some _ => exact hmx.elim
      | none =>
      split at h
      · rename_i l hh hbl hbh
        obtain ⟨h0, h1, h2, h⟩ := h
        have e1 := is_val hx
        subst e1
        refine ⟨_, _, ?_, is_mk _, h⟩
        unfold Instr.sliceAt
        simp only [Sem.run_bind, run_under a1, Result.andThen, Instr.slice, Option.isSome_none, Bool.false_eq_true, if_false, run_bounds (P := P) (w := w) (isSl := false) (len := s.size) (cap := s.size) (low hbl) (high hbh) h0 h1 h2, Sem.run_pure]
      · exact h.elim
    · exact h.elim
  · rename_i n e _ _ _ hT
    obtain ⟨dT, iT, a1, a2, a3⟩ := tyi_spec hT
    injection a3 with a3
    cases dT <;> simp [tdOf] at a3
    rename_i n' e'
    obtain ⟨a3, a4⟩ := a3
    subst n' e'
    split at h
    · rename_i E cs hE
      cases vmx with
      | some _ => exact hmx.elim
      | none =>
      split at h
      · rename_i l hh hbl hbh
        split at h
        · rename_i hE1
          obtain ⟨hn, h0, h1, h2, h⟩ := h
          simp only [D.is] at hx
          obtain ⟨b, o, rfl, h3, h4, h5⟩ := hx
          have hlen : (((cs.take hh.toNat).drop l.toNat).map fun c => [c]).length = hh.toNat - l.toNat := by rw [List.length_map, List.length_drop, List.length_take]; omega
          refine ⟨.slice (some (if n = l.toNat then ⟨b, o, none⟩ else (⟨b, o, none⟩ : Addr).add (l.toNat * E.size))) (hh.toNat - l.toNat) (n - l.toNat), _, ?_, ?_, h⟩
          · unfold Instr.sliceAt
            simp only [Sem.run_bind, run_under a1, Result.andThen, Instr.sureAddr, Sem.run_pure, run_bounds (P := P) (w := w) (isSl := false) (len := n) (cap := n) (low hbl) (high hbh) h0 h1 h2, run_size hE]
          · simp only [D.is]
            refine ⟨_, _, by rw [hlen], by rw [hlen]; omega, ?_⟩
            by_cases hcl : n = l.toNat
            · left
              apply List.eq_nil_of_length_eq_zero
              rw [hlen]; omega
            · right
              rw [if_neg hcl, hE1, Nat.mul_one]
              exact ⟨b, o + l.toNat, by rw [Addr.add_lit], h3, h4, rowsAt_ones (cellsAt_drop (cellsAt_take h5 _) _)⟩
        · rename_i hE1
          obtain ⟨hn, h0, h1, h2, h⟩ := h
          simp only [D.is] at hx
          obtain ⟨b, o, rfl, h3, h4, h5⟩ := hx
          have hlen := chunk_len E.size (hh.toNat - l.toNat) (cs.drop (l.toNat * E.size))
          refine ⟨.slice (some (if n = l.toNat then ⟨b, o, none⟩ else (⟨b, o, none⟩ : Addr).add (l.toNat * E.size))) (hh.toNat - l.toNat) (n - l.toNat), _, ?_, ?_, h⟩
          · unfold Instr.sliceAt
            simp only [Sem.run_bind, run_under a1, Result.andThen, Instr.sureAddr, Sem.run_pure, run_bounds (P := P) (w := w) (isSl := false) (len := n) (cap := n) (low hbl) (high hbh) h0 h1 h2, run_size hE]
          · simp only [D.is]
            refine ⟨_, _, by rw [hlen], by rw [hlen]; omega, ?_⟩
            by_cases hcl : n = l.toNat
            · left
              apply List.eq_nil_of_length_eq_zero
              rw [hlen]; omega
            · right
              rw [if_neg hcl]
              refine ⟨b, o + l.toNat * E.size, by rw [Addr.add_lit], h3, h4, rowsAt_chunk (cellsAt_drop h5 _) ?_⟩
              rw [List.length_drop]
              have e1 : (hh.toNat - l.toNat) * E.size = hh.toNat * E.size - l.toNat * E.size := Nat.sub_mul _ _ _
              have e2 : hh.toNat * E.size ≤ n * E.size := Nat.mul_le_mul_right _ (by omega)
              omega
      · exact h.elim
    · exact h.elim
  · exact h.elim
def TD.notInt : TD → Bool
  | .int _ => false
  | _ => true
def newsP (H : Heap) (sz : Nat) (x : D) (K : List (List D) → Prop) : Prop :=
  match x with
  | .val (.string s) => sz = 1 ∧ K (s.data.toList.map bD)
  | x => elsP H sz x K
theorem cellsAll_bytes {w : World} {S : Nat → Prop} : ∀ (l : List UInt8), cellsAll w S (l.map bD).flatten (l.map fun b => .int .u8 (b.toNat : Int))
  | [] => by simp [cellsAll]
  | c :: l => by
    simp only [List.map_cons, List.flatten_cons, bD, List.singleton_append, cellsAll, D.is]
    exact ⟨_, _, rfl, rfl, rfl, cellsAll_bytes l⟩
theorem newsP_spec {P : Program} {H : Heap} {w : World} (hH : HOk w H) {sz : Nat} {x : D} {v : Value} {K : List (List D) → Prop} (h : newsP H sz x K) (hx : D.is w H.others x v) :
    ∃ els us, K els ∧ (∀ e ∈ els, e.length = sz) ∧ cellsAll w H.others els.flatten us ∧ us.length = els.length * sz ∧ (∀ W, (Builtin.lenOf v).run P W = .ok els.length W) ∧ ∀ W : World, W.heap = w.heap → (Builtin.firstCells sz els.length v).run P W = .ok ⟨us⟩ W := by
  unfold newsP at h
  split at h
  · rename_i s
    obtain ⟨rfl, h⟩ := h
    have e := is_val hx
    subst e
    have hsz : s.size = s.data.toList.length := Array.length_toList.symm
    refine ⟨_, s.data.toList.map fun b => .int .u8 (b.toNat : Int), h, fun e he => ?_, cellsAll_bytes _, by rw [List.length_map, List.length_map, Nat.mul_one], fun W => ?_, fun W _ => ?_⟩
    · obtain ⟨c, _, rfl⟩ := List.mem_map.1 he; rfl
    · rw [List.length_map, ← hsz]; rfl
    · have hl : (List.map bD s.data.toList).length = s.size := by rw [List.length_map]; exact hsz.symm
      rw [hl]
      simp only [Builtin.firstCells, Sem.run_pure]
      congr 1
      apply Array.ext'
      simp only [Array.toList_map]
      rw [show (s.extract 0 s.size) = s from ByteArray.ext (by rw [ByteArray.data_extract]; exact Array.extract_size)]
  · obtain ⟨els, A, c, hk, rfl, hle, hrow⟩ := elsP_spec hH h hx
    rcases hrow with rfl | ⟨b, o, rfl, hb, hr⟩
    · refine ⟨[], [], hk, by simp, by simp [cellsAll], by simp, fun W => rfl, fun W _ => ?_⟩
      cases A with
      | none => rfl
      | some a => simp only [Builtin.firstCells, List.length_nil, Nat.zero_mul]; rfl
    · obtain ⟨us, h1, h2, h3⟩ := rowsAt_vals hr
      refine ⟨els, us, hk, rowsAt_sized hr, h1, h2, fun W => rfl, fun W hW => ?_⟩
      simp only [Builtin.firstCells]
      rw [← h2]
      have := run_loadCells_list (P := P) W ⟨b, o, none⟩ us (fun j v hj => by
        rw [Addr.add_lit, ← h3 j v hj]
        simp only [World.cell?, hW])
      rw [this]
theorem run_append_fit {P : Program} {w : World} {t xt ty e : TypeId} {dx : TypeDesc} {E : Ti} (ht : P.underlying t = some (.slice e)) (hxt : P.underlying xt = some dx) (hni : (tdOf dx).notInt = true)
    (hE : tyi P e = some E) (a : Addr) (n c m : Nat) (x : Value) (us : List Value) (hlen : ∀ W, (Builtin.lenOf x).run P W = .ok m W) (hfirst : ∀ W : World, W.heap = w.heap → (Builtin.firstCells E.size m x).run P W = .ok ⟨us⟩ W)
    (hle : n + m ≤ c) (w' : World) (hst : (storeCells (a.add (n * E.size)) us).run P w = .ok () w') : (Builtin.append_ #[t, xt] ty #[.slice (some a) n c, x]).run P w = .ok (.slice (some a) (n + m) c) w' := by
  unfold Builtin.append_
  cases dx <;> first
    | (cases hni; done)
    | (simp only [List.getElem?_toArray, List.getElem?_cons_zero, List.getElem?_cons_succ, Sem.run_bind, run_under ht, run_under hxt, Result.andThen, run_size hE, Bool.false_eq_true, if_false, hlen w, Sem.run_pure, Bool.not_false, if_true, false_or, if_pos hle, hfirst w rfl, hst])
theorem run_append_raw {P : Program} {w : World} {t xt ty e : TypeId} {dx : TypeDesc} {E : Ti} {zs : List Value} (ht : P.underlying t = some (.slice e)) (hxt : P.underlying xt = some dx) (hni : (tdOf dx).notInt = true)
    (hE : tyi P e = some E) (hz : E.zero = some zs) (A : Option Addr) (n c m : Nat) (x : Value) (us old : List Value) (hlen : ∀ W, (Builtin.lenOf x).run P W = .ok m W) (hfirst : ∀ W : World, W.heap = w.heap → (Builtin.firstCells E.size m x).run P W = .ok ⟨us⟩ W)
    (hold : ∀ W : World, W.heap = w.heap → (Builtin.firstCells E.size n (.slice A n c)).run P W = .ok ⟨old⟩ W) (hb0 : E.bytes ≠ 0) (hb : (n + m) * E.bytes ≤ 140737488355328) :
    (n + m ≤ c → ∀ w', (match A with | some a => storeCells (a.add (n * E.size)) us | none => pure () : Sem Unit).run P w = .ok () w' → (Builtin.append_ #[t, xt] ty #[.slice A n c, x]).run P w = .ok (.slice A (n + m) c) w') ∧
    (c < n + m → ∃ cap rest, n + m ≤ cap ∧ (Builtin.append_ #[t, xt] ty #[.slice A n c, x]).run P w = .ok (.slice (some ⟨w.heap.size, 0, none⟩) (n + m) cap) (w.drew.alloc (Obj.cells ⟨old ++ us ++ rest⟩ e)) ∧ rest.length = (cap - (n + m)) * zs.length) := by
  obtain ⟨i, b1, b2, b3, b4, b5⟩ := run_info hE w
  have binfo : ∀ W, (typeInfo e).run P W = .ok i W := fun W => by
    obtain ⟨i', c1, _, _, _, c5⟩ := run_info hE W
    rw [b5] at c5
    injection c5 with c5
    subst c5
    exact c1
  constructor
  · intro hle w' hst
    unfold Builtin.append_
    cases dx <;> first
      | (cases hni; done)
      | (simp only [List.getElem?_toArray, List.getElem?_cons_zero, List.getElem?_cons_succ, Sem.run_bind, run_under ht, run_under hxt, Result.andThen, run_size hE, Bool.false_eq_true, if_false, hlen w, Sem.run_pure, Bool.not_false, if_true, false_or, if_pos hle, hfirst w rfl]
         cases A with
         | none =>
           simp only [Sem.run_pure] at hst ⊢
           injection hst with _ hst
           subst hst
           rfl
         | some a =>
           simp only at hst ⊢
           simp only [Sem.run_bind, hst, Result.andThen, Sem.run_pure])
  · intro hlt
    have hn0 : ¬ (n + m ≤ c) := by omega
    have hn1 : ¬ (((n + m : Nat) : Int) > IntKind.i64.max ∧ i.bytes = 0) := by
      rintro ⟨h1, h2⟩
      exact hb0 (b3.trans h2)
    have hfit := growslice_fits hlt hb
    have hn2 : ¬ (Builtin.nextslicecap (n + m) c * i.bytes > 2 ^ 48) := by rw [← b3]; omega
    obtain ⟨cap, hcap⟩ : ∃ cap, cap = (Question.appendCap (n + m) c e).cut (w.tape w.drawn (.appendCap (n + m) c e)) := ⟨_, rfl⟩
    have hge : n + m ≤ cap := by rw [hcap]; simp [Question.cut]
    have hchoose : (choose (.appendCap (n + m) c e)).run P w = .ok cap w.drew := by
      rw [hcap]
      simp only [choose, Sem.run, Question.forced]
      rfl
    have hask : ∀ k W, (askRoom k).run P W = .ok () W := fun k W => by
      unfold askRoom
      split <;> rfl
    obtain ⟨z, hz1, hz2⟩ := run_zero hE hz w.drew
    refine ⟨cap, (Builtin.zeroCells z.cells (cap - (n + m))).toList, hge, ?_, by simp [Builtin.zeroCells, ← hz2]⟩
    have earr : (⟨old⟩ : Array Value) ++ ⟨us⟩ ++ Builtin.zeroCells z.cells (cap - (n + m)) = ⟨old ++ us ++ (Builtin.zeroCells z.cells (cap - (n + m))).toList⟩ := Array.ext' (by simp)
    unfold Builtin.append_
    cases dx <;> first
      | (cases hni; done)
      | (simp only [List.getElem?_toArray, List.getElem?_cons_zero, List.getElem?_cons_succ, Sem.run_bind, run_under ht, run_under hxt, Result.andThen, run_size hE, Bool.false_eq_true, if_false, hlen w, Sem.run_pure, Bool.not_false, if_true, false_or, if_neg hn0, binfo, if_neg hn1, if_neg hn2, hchoose, hask, hold w.drew rfl, hfirst w.drew rfl, hz1, newRow, newObj, Sem.run]
         rw [earr]
         rfl)
def apV (P : Program) (H : Heap) (t xt : TypeId) (s x : D) (K : D → Heap → Prop) : Prop :=
  match tyi P t, tyi P xt with
  | some ⟨.slice e, _, _, _⟩, some X => X.d.notInt = true ∧ (match tyi P e with
    | some ⟨_, sz, by_, some zs⟩ => zs.length = sz ∧ by_ ≠ 0 ∧ newsP H sz x fun els => (match s with
      | .val (.slice none 0 0) => els.length * by_ ≤ 140737488355328 ∧ (els = [] → K (.val (.slice none 0 0)) H) ∧ (els ≠ [] → ∀ b, H b = none → K (.os b 0 sz 0 els.length) (H.upd b (.row e 0 sz els)))
      | .emp => els.length * by_ ≤ 140737488355328 ∧ (els = [] → K .emp H) ∧ (els ≠ [] → ∀ b, H b = none → K (.os b 0 sz 0 els.length) (H.upd b (.row e 0 sz els)))
      | .os b o sz' k n => sz' = sz ∧ (n + els.length) * by_ ≤ 140737488355328 ∧ (match H b with
        | some (.row ty o' sz'' els0) => ty = e ∧ o' = o ∧ sz'' = sz ∧ k + n ≤ els0.length ∧ ∀ b' o', (H.del b) b' = none → K (.os b' o' sz 0 (n + els.length)) ((H.del b).upd b' (.row e o' sz ((els0.drop k).take n ++ els)))
        | _ => False)
      | .val (.slice (some ⟨b, o, none⟩) n c) => n + els.length ≤ c ∧ (match H b with
        | some (.row ty o' sz'' els0) => o' = o ∧ sz'' = sz ∧ c ≤ els0.length ∧ K (.val (.slice (some ⟨b, o, none⟩) (n + els.length) c)) (H.upd b (.row ty o sz (els0.take n ++ els ++ els0.drop (n + els.length))))
        | _ => False)
      | _ => False)
    | _ => False)
  | _, _ => False
theorem Heap.del_upd (H : Heap) (b : Nat) (x : HObj) : (H.del b).upd b x = H.upd b x := funext fun c => by
  by_cases h : c = b
  · subst h; rw [Heap.upd_same, Heap.upd_same]
  · rw [Heap.upd_ne h, Heap.upd_ne h, Heap.del_ne h]
theorem Heap.del_le (H : Heap) (b : Nat) : (H.del b).le H := fun c x h => by
  by_cases e : c = b
  · subst e; rw [Heap.del_same] at h; cases h
  · rw [Heap.del_ne e] at h; exact h
theorem ev_drew (H : Heap) (w : World) : Ev H w H w.drew := ⟨rfl, rfl, rfl, Nat.le_refl _, fun _ _ h => ⟨rfl, h⟩, fun _ _ _ fr h => ⟨_, fr, h, rfl⟩⟩
theorem HOk.drew {H : Heap} {w : World} (h : HOk w H) : HOk w.drew H := fun b x hb => (ev_drew H w).objAt rfl (h b x hb)
theorem row_alloc2 {H : Heap} {w : World} (hH : HOk w H) (t : TypeId) (sz : Nat) (els : List (List D)) (vs us : List Value) (hv : cellsAll w H.others els.flatten vs) (hsz : ∀ el ∈ els, el.length = sz) (hlen : vs.length = els.length * sz) :
    HOk (w.alloc (Obj.cells ⟨vs ++ us⟩ t)) (H.upd w.heap.size (.row t 0 sz els)) := by
  refine hH.alloc ⟨⟨vs ++ us⟩, (0, 0), heap_alloc_new w _, free0 _, by simp; omega, ?_⟩
  refine rowsAt_block hsz (cellsAll_keep (ev_alloc _ _ hH).kept _ hv) fun j v hj => ?_
  rw [cell_of_row _ _ _ _ _ _ (heap_alloc_new w _), Nat.zero_add]
  have hlt := (List.getElem?_eq_some_iff.1 hj).1
  simp only [List.getElem?_toArray]
  rw [List.getElem?_append_left hlt]
  exact hj
theorem own_apd {P : Program} {H : Heap} {w : World} (hH : HOk w H) {S : Sem Value} {ty : TypeId} {sz n k b o' c zl : Nat} {A : Option Addr} {els els0 : List (List D)} {us : List Value} {K : D → Heap → Prop}
    (hHb : H b = some (.row ty o' sz els0)) (hle : k + n ≤ els0.length) (hzl : zl = sz)
    (h : ∀ b' o', (H.del b) b' = none → K (.os b' o' sz 0 (n + els.length)) ((H.del b).upd b' (.row ty o' sz ((els0.drop k).take n ++ els))))
    (hnc : n ≤ c) (hA : c = 0 ∨ (A = some ⟨b, o' + k * sz, none⟩ ∧ ∃ cs t fr, w.heap[b]? = some (Obj.cells cs t fr) ∧ o' + (k + c) * sz ≤ cs.size))
    (hsz : ∀ e ∈ els, e.length = sz) (hus : cellsAll w H.others els.flatten us) (hul : us.length = els.length * sz)
    (hraw : ∀ old : List Value, (∀ W : World, W.heap = w.heap → (Builtin.firstCells sz n (.slice A n c)).run P W = .ok ⟨old⟩ W) →
      (n + els.length ≤ c → ∀ w', (match A with | some a => storeCells (a.add (n * sz)) us | none => pure () : Sem Unit).run P w = .ok () w' → S.run P w = .ok (.slice A (n + els.length) c) w') ∧
      (c < n + els.length → ∃ cap rest, n + els.length ≤ cap ∧ S.run P w = .ok (.slice (some ⟨w.heap.size, 0, none⟩) (n + els.length) cap) (w.drew.alloc (Obj.cells ⟨old ++ us ++ rest⟩ ty)) ∧ rest.length = (cap - (n + els.length)) * zl)) :
    ∃ r d' w' H', S.run P w = .ok r w' ∧ D.is w' H'.others d' r ∧ HOk w' H' ∧ Ev H w H' w' ∧ K d' H' := by
  obtain ⟨cs, fr, g1, g2, g3, g4⟩ := hH _ _ hHb
  have hrow0 := rowsAt_take (rowsAt_drop g4 k) n
  have hl0 : ((els0.drop k).take n).length = n := by rw [List.length_take, List.length_drop]; omega
  obtain ⟨old, o1, o2, o3⟩ := rowsAt_vals hrow0
  rw [hl0] at o2
  have hold : ∀ W : World, W.heap = w.heap → (Builtin.firstCells sz n (.slice A n c)).run P W = .ok ⟨old⟩ W := fun W hW => by
    rcases hA with hA | ⟨rfl, _⟩
    · obtain rfl : n = 0 := by omega
      have : old = [] := List.eq_nil_of_length_eq_zero (by simpa using o2)
      subst this
      cases A <;> simp [Builtin.firstCells, loadCells, loadCellsFrom]
    · simp only [Builtin.firstCells]
      rw [← o2]
      exact run_loadCells_list (P := P) W ⟨b, o' + k * sz, none⟩ old (fun j v hj => by
        rw [Addr.add_lit, ← o3 j v hj]
        simp only [World.cell?, hW])
  obtain ⟨r1, r2⟩ := hraw old hold
  by_cases hfit : n + els.length ≤ c
  ·
    have hres := h b (o' + k * sz) (Heap.del_same H b)
    rw [Heap.del_upd] at hres
    have hexp : k * sz + n * sz ≤ els0.length * sz := by rw [← Nat.add_mul]; exact Nat.mul_le_mul_right _ hle
    rcases hA with hA | ⟨rfl, cs1, t1, fr1, f1, f2⟩
    · obtain rfl : n = 0 := by omega
      have hels : els = [] := List.eq_nil_of_length_eq_zero (by omega)
      subst hels
      have hus0 : us = [] := List.eq_nil_of_length_eq_zero (by simpa using hul)
      subst hus0
      have hev : Ev H w (H.upd b (.row ty (o' + k * sz) sz ((els0.drop k).take 0 ++ []))) w := ev_block (by rw [hHb]; simp) rfl rfl rfl rfl (fun _ _ => rfl) (fun cs0 t0 fr0 h0 => ⟨cs0, fr0, h0, rfl⟩)
      refine ⟨_, _, w, _, r1 hfit w (by cases A <;> rfl), ?_, hok_block hH hev (fun _ _ => rfl) ⟨cs, fr, g1, g2, ?_, ?_⟩, hev, hres⟩
      · simp only [D.is]
        exact ⟨A, c, rfl, by omega, .inl hA⟩
      · simp; omega
      · simp only [List.take_zero, List.append_nil, rowsAt]
    · rw [g1] at f1
      injection f1 with f1
      injection f1 with x1 x2 x3
      subst x1 x2 x3
      have hfz : o' + k * sz + n * sz + 0 + us.length ≤ cs.size := by
        rw [hul]
        have : (k + (n + els.length)) * sz ≤ (k + c) * sz := Nat.mul_le_mul_right _ (by omega)
        rw [Nat.add_mul, Nat.add_mul] at this
        omega
      obtain ⟨w', hrun, e1, e2, e3, e4, ho, cs', q1, q2, q3, q4⟩ := run_storeCells_spec (P := P) b ty fr us (o' + k * sz + n * sz) 0 w cs g1 g2 hfz (cellsAll_one hus)
      have hev : Ev H w (H.upd b (.row ty (o' + k * sz) sz ((els0.drop k).take n ++ els))) w' := ev_block (by rw [hHb]; simp) e1 e2 e3 e4 ho (fun cs0 t0 fr0 h0 => by
        rw [g1] at h0
        injection h0 with h0
        injection h0 with x1 x2 x3
        subst x1 x2 x3
        exact ⟨cs', _, q1, q2⟩)
      refine ⟨_, _, w', _, r1 hfit w' (by simp only [Addr.add_lit]; exact hrun), ?_, hok_block hH hev ho ⟨cs', fr, q1, by rw [q2]; exact g2, ?_, ?_⟩, hev, hres⟩
      · simp only [D.is]
        refine ⟨_, c, rfl, hfit, .inr ⟨by simp, cs', ty, fr, q1, ?_⟩⟩
        rw [q2, Nat.zero_add]
        have : (k + c) * sz = k * sz + c * sz := Nat.add_mul _ _ _
        omega
      · rw [q2, List.length_append, hl0, Nat.add_mul, ← hul]
        omega
      · have hcell : ∀ j, w'.cell? ⟨b, j, none⟩ = cs'[j]? := fun j => cell_of_row w' b j cs' ty fr q1
        have hcell0 : ∀ j, w.cell? ⟨b, j, none⟩ = cs[j]? := fun j => cell_of_row w b j cs ty fr g1
        refine rowsAt_block (vs := old ++ us) ?_ ?_ ?_
        · intro el hel
          rcases List.mem_append.1 hel with h1 | h1
          · exact rowsAt_sized hrow0 el h1
          · exact hsz el h1
        · rw [List.flatten_append]
          exact cellsAll_append (cellsAll_keep hev.kept _ o1) (cellsAll_keep hev.kept _ hus)
        · intro j v hj
          rcases Nat.lt_or_ge j old.length with hlt | hge
          · rw [List.getElem?_append_left hlt] at hj
            rw [hcell, q4 _ (by omega), ← hcell0]
            exact o3 j v hj
          · rw [List.getElem?_append_right hge] at hj
            rw [hcell, show o' + k * sz + j = o' + k * sz + n * sz + 0 + (j - old.length) by omega]
            exact q3 _ v hj
  ·
    obtain ⟨cap, rest, h3, h4, h5⟩ := r2 (by omega)
    have hH2 : HOk w.drew (H.del b) := hH.drew.less (Heap.del_le H b)
    have hn : (H.del b) w.heap.size = none := by
      have := fresh_none hH
      rw [Heap.del_ne]
      · exact this
      · have := hH.lt hHb
        omega
    have hkl : Kept H.others (H.del b).others w w.drew := (ev_drew H w).less (Heap.del_le H b) |>.kept
    refine ⟨_, _, _, _, h4, ?_, ?_, ((ev_drew H w).less (Heap.del_le H b)).trans (ev_alloc _ _ hH2), h w.heap.size 0 hn⟩
    · simp only [D.is]
      refine ⟨_, _, rfl, h3, .inr ⟨by simp, _, ty, (0, 0), heap_alloc_new w.drew _, ?_⟩⟩
      simp only [List.size_toArray, List.length_append, h5, hul, hzl, o2]
      rw [← Nat.add_mul, ← Nat.add_mul]
      simp only [Nat.zero_add]
      exact Nat.mul_le_mul_right _ (by omega)
    · have := row_alloc2 (w := w.drew) hH2 ty sz ((els0.drop k).take n ++ els) (old ++ us) rest (by rw [List.flatten_append]; exact cellsAll_append (cellsAll_keep hkl _ o1) (cellsAll_keep hkl _ hus)) (by
          intro el hel
          rcases List.mem_append.1 hel with h1 | h1
          · exact rowsAt_sized hrow0 el h1
          · exact hsz el h1) (by rw [List.length_append, List.length_append, hl0, o2, hul, Nat.add_mul])
      simpa using this
set_option maxHeartbeats 1000000 in
theorem run_apV {P : Program} {H : Heap} {w : World} (hH : HOk w H) {t xt ty : TypeId} {s x : D} {v u : Value} {K : D → Heap → Prop} (h : apV P H t xt s x K) (hs : D.is w H.others s v) (hx : D.is w H.others x u) :
    ∃ r d' w' H', (Builtin.append_ #[t, xt] ty #[v, u]).run P w = .ok r w' ∧ D.is w' H'.others d' r ∧ HOk w' H' ∧ Ev H w H' w' ∧ K d' H' := by
  unfold apV at h
  split at h
  · rename_i e _ _ _ X hT hX
    obtain ⟨hni, h⟩ := h
    split at h
    · rename_i dE sz by_ zs hE
      obtain ⟨hzl, hb0, h⟩ := h
      obtain ⟨d, i, a1, a2, a3⟩ := tyi_spec hT
      injection a3 with a3
      cases d <;> simp [tdOf] at a3
      subst a3
      obtain ⟨dx, ix, c1, c2, rfl⟩ := tyi_spec hX
      obtain ⟨els, us, h, hsz, hus, hul, hlen, hfirst⟩ := newsP_spec (P := P) hH h hx
      have fresh : ∀ (A : Option Addr), els.length * by_ ≤ 140737488355328 → els ≠ [] → K (.os w.heap.size 0 sz 0 els.length) (H.upd w.heap.size (.row e 0 sz els)) →
          ∃ r d' w' H', (Builtin.append_ #[t, xt] ty #[.slice A 0 0, u]).run P w = .ok r w' ∧ D.is w' H'.others d' r ∧ HOk w' H' ∧ Ev H w H' w' ∧ K d' H' := by
        intro A hb hne hk
        obtain ⟨_, h2⟩ := run_append_raw (P := P) (w := w) (ty := ty) a1 c1 hni hE rfl A 0 0 els.length u us [] hlen hfirst (fun W _ => by cases A <;> simp [Builtin.firstCells, loadCells, loadCellsFrom]) hb0 (by simpa using hb)
        have hpos : 0 < els.length := by
          rcases els with _ | ⟨_, _⟩
          · exact absurd rfl hne
          · simp
        obtain ⟨cap, rest, h3, h4, h5⟩ := h2 (by omega)
        rw [Nat.zero_add] at h4 h3
        refine ⟨_, _, _, _, h4, ?_, ?_, (ev_drew H w).trans (ev_alloc _ _ hH.drew), hk⟩
        · simp only [D.is]
          refine ⟨_, _, rfl, h3, .inr ⟨by simp, _, e, (0, 0), heap_alloc_new w.drew _, ?_⟩⟩
          simp only [List.size_toArray, List.length_append, List.length_nil, Nat.zero_add, h5, hul, hzl]
          rw [← Nat.add_mul]
          exact Nat.mul_le_mul_right _ (by omega)
        · have := row_alloc2 (w := w.drew) hH.drew e sz els us rest (cellsAll_keep (ev_drew H w).kept _ hus) hsz hul
          simpa using this
      split at h
      · obtain ⟨hb, h1, h2⟩ := h
        have e1 := is_val hs
        subst e1
        by_cases hne : els = []
        · subst hne
          obtain ⟨h3, _⟩ := run_append_raw (P := P) (w := w) (ty := ty) a1 c1 hni hE rfl none 0 0 0 u us [] hlen hfirst (fun W _ => rfl) hb0 (by simp)
          exact ⟨_, _, w, H, h3 (by omega) w rfl, is_mk _, hH, Ev.refl _ _, h1 rfl⟩
        · exact fresh none hb hne (h2 hne _ (fresh_none hH))
      · obtain ⟨hb, h1, h2⟩ := h
        simp only [D.is] at hs
        obtain ⟨A, rfl⟩ := hs
        by_cases hne : els = []
        · subst hne
          have hus0 : us = [] := List.eq_nil_of_length_eq_zero (by simpa using hul)
          subst hus0
          obtain ⟨h3, _⟩ := run_append_raw (P := P) (w := w) (ty := ty) a1 c1 hni hE rfl A 0 0 0 u [] [] hlen hfirst (fun W _ => by cases A <;> simp [Builtin.firstCells, loadCells, loadCellsFrom]) hb0 (by simp)
          exact ⟨_, _, w, H, h3 (by omega) w (by cases A <;> rfl), by simp only [D.is]; exact ⟨A, rfl⟩, hH, Ev.refl _ _, h1 rfl⟩
        · exact fresh A hb hne (h2 hne _ (fresh_none hH))
      · rename_i b o sz' k n _
        obtain ⟨rfl, hb, h⟩ := h
        split at h
        · rename_i ty' o' sz'' els0 hHb
          obtain ⟨rfl, rfl, rfl, hle, h⟩ := h
          simp only [D.is] at hs
          obtain ⟨A, c, rfl, hnc, hA⟩ := hs
          exact own_apd hH (ty := ty') hHb hle hzl h hnc hA hsz hus hul fun old hold => run_append_raw (P := P) (w := w) (ty := ty) a1 c1 hni hE rfl A n c els.length u us old hlen hfirst hold hb0 hb
        · exact h.elim
      · rename_i b o n c _
        obtain ⟨hfit, h⟩ := h
        have e1 := is_val hs
        subst e1
        split at h
        · rename_i ty' o' sz'' els0 hHb
          obtain ⟨rfl, rfl, hcl, hk⟩ := h
          obtain ⟨cs, fr, g1, g2, g3, g4⟩ := hH _ _ hHb
          obtain ⟨old1, o1, o2, o3⟩ := rowsAt_vals (rowsAt_take g4 n)
          obtain ⟨old2, p1, p2, p3⟩ := rowsAt_vals (rowsAt_drop g4 (n + els.length))
          have hl1 : (els0.take n).length = n := by rw [List.length_take]; omega
          rw [hl1] at o2
          rw [List.length_drop] at p2
          have hbound : ∀ q, q ≤ els0.length → o' + q * sz'' ≤ cs.size := fun q hq => by
            have : q * sz'' ≤ els0.length * sz'' := Nat.mul_le_mul_right _ hq
            omega
          have hfz : o' + n * sz'' + 0 + us.length ≤ cs.size := by
            have := hbound (n + els.length) (by omega)
            rw [hul]
            rw [Nat.add_mul] at this
            omega
          obtain ⟨w', hrun, e1, e2, e3, e4, ho, cs', q1, q2, q3, q4⟩ := run_storeCells_spec (P := P) b ty' fr us (o' + n * sz'') 0 w cs g1 g2 hfz (cellsAll_one hus)
          have hev : Ev H w (H.upd b (.row ty' o' sz'' (els0.take n ++ els ++ els0.drop (n + els.length)))) w' := ev_block (by rw [hHb]; simp) e1 e2 e3 e4 ho (fun cs0 t0 fr0 h0 => by
            rw [g1] at h0
            injection h0 with h0
            injection h0 with x1 x2 x3
            subst x1 x2 x3
            exact ⟨cs', _, q1, q2⟩)
          refine ⟨_, _, w', _, run_append_fit (ty := ty) a1 c1 hni hE ⟨b, o', none⟩ n c els.length u us hlen hfirst hfit w' (by simp only [Addr.add_lit]; exact hrun), is_mk _, hok_block hH hev ho ⟨cs', fr, q1, by rw [q2]; exact g2, ?_, ?_⟩, hev, hk⟩
          · rw [q2, List.length_append, List.length_append, hl1, List.length_drop, show n + els.length + (els0.length - (n + els.length)) = els0.length by omega]
            exact hbound _ (Nat.le_refl _)
          · have hcell : ∀ j, w'.cell? ⟨b, j, none⟩ = cs'[j]? := fun j => cell_of_row w' b j cs' ty' fr q1
            have hcell0 : ∀ j, w.cell? ⟨b, j, none⟩ = cs[j]? := fun j => cell_of_row w b j cs ty' fr g1
            refine rowsAt_block (vs := old1 ++ us ++ old2) ?_ ?_ ?_
            · intro el hel
              rcases List.mem_append.1 hel with h1 | h1
              · rcases List.mem_append.1 h1 with h1 | h1
                · exact rowsAt_sized (rowsAt_take g4 n) el h1
                · exact hsz el h1
              · exact rowsAt_sized (rowsAt_drop g4 _) el h1
            · rw [List.flatten_append, List.flatten_append]
              exact cellsAll_append (cellsAll_append (cellsAll_keep hev.kept _ o1) (cellsAll_keep hev.kept _ hus)) (cellsAll_keep hev.kept _ p1)
            · intro j v hj
              rw [hcell]
              rcases Nat.lt_or_ge j (old1 ++ us).length with hlt | hge
              · rw [List.getElem?_append_left hlt] at hj
                rcases Nat.lt_or_ge j old1.length with hlt1 | hge1
                · rw [List.getElem?_append_left hlt1] at hj
                  rw [q4 _ (by omega), ← hcell0]
                  exact o3 j v hj
                · rw [List.getElem?_append_right hge1] at hj
                  rw [show o' + j = o' + n * sz'' + 0 + (j - old1.length) by omega]
                  exact q3 _ v hj
              · rw [List.getElem?_append_right hge] at hj
                rw [List.length_append] at hge hj
                have hnm : (n + els.length) * sz'' = n * sz'' + els.length * sz'' := Nat.add_mul _ _ _
                rw [q4 _ (by omega), ← hcell0, show o' + j = o' + (n + els.length) * sz'' + (j - (old1.length + us.length)) by omega]
                exact p3 _ v hj
        · exact h.elim
      · exact h.elim
    · exact h.elim
  · exact h.elim
end Go.Proofs.YtgfhgeelfaalmaaGreatDoor
namespace Go.Proofs.YtgfhgeelfaalmaaGreatDoor
open Go.RowKit
open Go.Maps (Keyed)
set_option linter.unusedVariables false
set_option linter.unusedSimpArgs false
noncomputable def mget : List (Value × D) → Value → Option D
  | [], _ => none
  | p :: m, x => open Classical in if p.1 = x then some p.2 else mget m x
noncomputable def mset : List (Value × D) → Value → D → List (Value × D)
  | [], x, d => [(x, d)]
  | p :: m, x, d => open Classical in if p.1 = x then (x, d) :: m else p :: mset m x d
theorem mget_nil (x : Value) : mget [] x = none := rfl
theorem mget_mset_same : ∀ (m : List (Value × D)) (x : Value) (d : D), mget (mset m x d) x = some d
  | [], x, d => by simp [mset, mget]
  | p :: m, x, d => by
    simp only [mset]
    split
    · simp [mget]
    · rename_i h
      simp only [mget, if_neg h]
      exact mget_mset_same m x d
theorem mget_mset_ne : ∀ (m : List (Value × D)) {x y : Value} (d : D), x ≠ y → mget (mset m x d) y = mget m y
  | [], x, y, d, h => by simp [mset, mget, h]
  | p :: m, x, y, d, h => by
    simp only [mset]
    split
    · rename_i h2
      simp only [mget, if_neg h]
      rw [if_neg (by rw [h2]; exact h)]
    · simp only [mget]
      split
      · rfl
      · exact mget_mset_ne m d h
theorem mset_keys : ∀ (m : List (Value × D)) (x : Value) (d : D), (mset m x d).map (·.1) = m.map (·.1) ∧ x ∈ m.map (·.1) ∨ (mset m x d).map (·.1) = m.map (·.1) ++ [x] ∧ x ∉ m.map (·.1)
  | [], x, d => .inr ⟨by simp [mset], by simp⟩
  | p :: m, x, d => by
    simp only [mset]
    split
    · rename_i h
      exact .inl ⟨by simp [h], by simp [h]⟩
    · rename_i h
      rcases mset_keys m x d with ⟨h1, h2⟩ | ⟨h1, h2⟩
      · exact .inl ⟨by simp only [List.map_cons, h1], List.mem_cons_of_mem _ h2⟩
      · refine .inr ⟨by simp only [List.map_cons, h1, List.cons_append], fun h3 => ?_⟩
        rcases List.mem_cons.1 h3 with h3 | h3
        · exact h h3.symm
        · exact h2 h3
theorem mset_nodup {m : List (Value × D)} (x : Value) (d : D) (h : (m.map (·.1)).Nodup) : ((mset m x d).map (·.1)).Nodup := by
  rcases mset_keys m x d with ⟨h1, _⟩ | ⟨h1, h2⟩
  · rw [h1]; exact h
  · rw [h1, List.nodup_append]
    refine ⟨h, by simp, fun a ha b hb hab => ?_⟩
    simp only [List.mem_singleton] at hb
    rw [hb] at hab
    rw [hab] at ha
    exact h2 ha
def keyVals : List D → Option (List Value)
  | [] => some []
  | .val v :: ds => (keyVals ds).map (v :: ·)
  | _ => none
def keyVal : D → Option Value
  | .val v => some v
  | .agg cs => (keyVals cs).map fun vs => .agg ⟨vs⟩
  | _ => none
theorem aggKey_is {w : World} {S : Nat → Prop} : ∀ (cs : List D) (vs us : List Value), keyVals cs = some vs → cellsAll w S cs us → us = vs
  | [], vs, us, h1, h2 => by
    simp only [cellsAll] at h2
    simp only [keyVals, Option.some.injEq] at h1
    rw [← h1, h2]
  | c :: cs, vs, us, h1, h2 => by
    simp only [cellsAll] at h2
    obtain ⟨u, us', rfl, _, h3, h4⟩ := h2
    cases c with
    | val v =>
      simp only [keyVals, Option.map_eq_some_iff] at h1
      obtain ⟨vs', h5, rfl⟩ := h1
      simp only [D.is] at h3
      rw [h3, aggKey_is cs vs' us' h5 h4]
    | _ => simp [keyVals] at h1
theorem keyVal_is {w : World} {S : Nat → Prop} {d : D} {k v : Value} (h : keyVal d = some k) (hd : D.is w S d v) : v = k := by
  cases d with
  | val u =>
    simp only [keyVal, Option.some.injEq] at h
    simp only [D.is] at hd
    rw [hd, h]
  | agg cs =>
    simp only [keyVal, Option.map_eq_some_iff] at h
    obtain ⟨vs, h1, rfl⟩ := h
    simp only [D.is] at hd
    obtain ⟨us, rfl, h2⟩ := hd
    rw [aggKey_is cs vs us h1 h2]
  | _ => simp [keyVal] at h
def zeroOf (P : Program) (t : TypeId) : Option Value := (P.info? t).bind (·.zero)
theorem run_zeroOf {P : Program} {t : TypeId} {z : Value} (h : zeroOf P t = some z) (w : World) : (zeroValue t).run P w = .ok z w := by
  unfold zeroOf at h
  obtain ⟨i, h1, h2⟩ := Option.bind_eq_some_iff.1 h
  unfold zeroValue typeInfo program
  simp [Sem.run, h1, h2]
def kOK (P : Program) (kt : TypeId) (m : List (Value × D)) (x : Value) : Prop := Keyed P kt ∧ (∃ l, keyOf P kt x = some l) ∧ ∀ p ∈ m, ∃ l, keyOf P kt p.1 = some l
def lkV (P : Program) (H : Heap) (t : TypeId) (x ix : D) (ok : Bool) (K : D → Prop) : Prop :=
  match tyi P t, x, keyVal ix with
  | some ⟨.map kt et, _, _, _⟩, .val (.map (some b)), some kv => (match H b, zeroOf P et with
    | some (.map m), some z => kOK P kt m kv ∧ (match mget m kv with
      | some d => K (if ok then .tup [d, .val (.bool true)] else d)
      | none => K (if ok then .tup [.val z, .val (.bool false)] else .val z))
    | _, _ => False)
  | _, _, _ => False
def muV (P : Program) (H : Heap) (t : TypeId) (x ix d : D) (K : Heap → Prop) : Prop :=
  match tyi P t, x, keyVal ix with
  | some ⟨.map kt _, _, _, _⟩, .val (.map (some b)), some kv => (match H b with
    | some (.map m) => kOK P kt m kv ∧ K (H.upd b (.map (mset m kv d)))
    | _ => False)
  | _, _, _ => False
def mmV (H : Heap) (K : D → Heap → Prop) : Prop := ∀ b, H b = none → K (.val (.map (some b))) (H.upd b (.map []))
theorem run_mmV {P : Program} {H : Heap} {w : World} (hH : HOk w H) {t : TypeId} {K : D → Heap → Prop} (h : mmV H K) :
    ∃ r d' w' H', (Instr.makeMap t none).run P w = .ok r w' ∧ D.is w' H'.others d' r ∧ HOk w' H' ∧ Ev H w H' w' ∧ K d' H' :=
  ⟨_, _, w.alloc (.map #[] 0), _, rfl, by simp only [D.is], hH.alloc (x := .map []) ⟨#[], 0, heap_alloc_new w _, rfl, by simp only [List.map_nil, valsAll], by simp, by simp [Stm]⟩, ev_alloc _ _ hH, h _ (fresh_none hH)⟩
theorem key_at {es : Array MapEntry} {m : List (Value × D)} (h : es.toList.map (·.key) = m.map (·.1)) {j : Nat} {e : MapEntry} (he : es.toList[j]? = some e) : ∃ p, m[j]? = some p ∧ p.1 = e.key := by
  have h1 := congrArg (·[j]?) h
  simp only [List.getElem?_map, he, Option.map_some] at h1
  cases hm : m[j]? with
  | none => rw [hm] at h1; cases h1
  | some p => rw [hm] at h1; simp at h1; exact ⟨p, rfl, h1.symm⟩
theorem mget_none : ∀ {m : List (Value × D)} {x : Value}, (∀ p ∈ m, p.1 ≠ x) → mget m x = none
  | [], x, _ => rfl
  | p :: m, x, h => by
    simp only [mget, if_neg (h p List.mem_cons_self)]
    exact mget_none fun q hq => h q (List.mem_cons_of_mem _ hq)
theorem mget_at : ∀ {m : List (Value × D)} {j : Nat} {p : Value × D}, (m.map (·.1)).Nodup → m[j]? = some p → mget m p.1 = some p.2
  | q :: m, 0, p, _, h => by
    simp only [List.getElem?_cons_zero, Option.some.injEq] at h
    subst h
    simp [mget]
  | q :: m, j + 1, p, hn, h => by
    simp only [List.getElem?_cons_succ] at h
    simp only [List.map_cons, List.nodup_cons] at hn
    have hne : q.1 ≠ p.1 := fun e => hn.1 (by rw [e]; exact List.mem_map.2 ⟨p, List.mem_of_getElem? h, rfl⟩)
    simp only [mget, if_neg hne]
    exact mget_at hn.2 h
theorem mset_at : ∀ {m : List (Value × D)} {j : Nat} {p : Value × D} {d : D}, (m.map (·.1)).Nodup → m[j]? = some p → mset m p.1 d = m.set j (p.1, d)
  | q :: m, 0, p, d, _, h => by
    simp only [List.getElem?_cons_zero, Option.some.injEq] at h
    subst h
    simp [mset]
  | q :: m, j + 1, p, d, hn, h => by
    simp only [List.getElem?_cons_succ] at h
    simp only [List.map_cons, List.nodup_cons] at hn
    have hne : q.1 ≠ p.1 := fun e => hn.1 (by rw [e]; exact List.mem_map.2 ⟨p, List.mem_of_getElem? h, rfl⟩)
    simp only [mset, if_neg hne, List.set_cons_succ]
    rw [mset_at hn.2 h]
theorem mset_new : ∀ {m : List (Value × D)} {x : Value} {d : D}, (∀ p ∈ m, p.1 ≠ x) → mset m x d = m ++ [(x, d)]
  | [], x, d, _ => rfl
  | p :: m, x, d, h => by
    simp only [mset, if_neg (h p List.mem_cons_self), List.cons_append]
    rw [mset_new fun q hq => h q (List.mem_cons_of_mem _ hq)]
theorem vals_at {w : World} {S : Nat → Prop} {es : Array MapEntry} {m : List (Value × D)} (hv : valsAll w S (m.map (·.2)) (es.toList.map (·.val))) {j : Nat} {e : MapEntry} {p : Value × D} (he : es.toList[j]? = some e) (hp : m[j]? = some p) : D.is w S p.2 e.val := by
  obtain ⟨v, h1, h2⟩ := valsAll_get hv j p.2 (by rw [List.getElem?_map, hp]; rfl)
  rw [List.getElem?_map, he] at h1
  simp at h1
  rw [h1]
  exact h2
theorem run_lkV {P : Program} {H : Heap} {w : World} (hH : HOk w H) {t : TypeId} {x ix : D} {v u : Value} {ok : Bool} {K : D → Prop} (h : lkV P H t x ix ok K) (hx : D.is w H.others x v) (hi : D.is w H.others ix u) :
    ∃ r d, (Instr.lookup t v u ok).run P w = .ok r w ∧ D.is w H.others d r ∧ K d := by
  unfold lkV at h
  split at h
  · rename_i kt et _ _ _ b kv hT hkv
    split at h
    · rename_i m z hb hE
      obtain ⟨⟨hKd, ⟨lx, hlx⟩, hkeys⟩, h⟩ := h
      have ev := is_val hx
      subst ev
      have eu := keyVal_is hkv hi
      subst eu
      obtain ⟨d, i, a1, a2, a3⟩ := tyi_spec hT
      injection a3 with a3
      cases d <;> simp [tdOf] at a3
      obtain ⟨rfl, rfl⟩ := a3
      obtain ⟨es, clock, h1, h2, h3, h4, h4s⟩ := hH _ _ hb
      have hes : ∀ e ∈ es.toList, ∃ l, keyOf P kt e.key = some l := fun e he => by
        obtain ⟨j, hj⟩ := List.getElem?_of_mem he
        obtain ⟨p, hp, hpk⟩ := key_at h2 hj
        rw [← hpk]
        exact hkeys p (List.mem_of_getElem? hp)
      have hget : ∀ (P' : Program), (getObj b).run P' w = .ok (.map es clock) w := fun P' => by simp [getObj, Sem.run, h1]
      rcases hKd.find w hlx es.toList hes with ⟨f1, f2⟩ | ⟨j, e, f1, f2, f3⟩
      · have hn : mget m u = none := mget_none fun p hp => by
          obtain ⟨j, hj⟩ := List.getElem?_of_mem hp
          have h5 := congrArg (·[j]?) h2
          simp only [List.getElem?_map, hj, Option.map_some] at h5
          cases he : es.toList[j]? with
          | none => rw [he] at h5; cases h5
          | some e => rw [he] at h5; simp at h5; rw [← h5]; exact f2 e (List.mem_of_getElem? he)
        rw [hn] at h
        simp only at h
        have hz1 := run_zeroOf hE w
        have hzd : D.is w H.others (.val z) z := by simp only [D.is]
        refine ⟨if ok = true then .tuple #[z, .bool false] else z, _, ?_, ?_, h⟩
        · simp only [Instr.lookup, Sem.run_bind, run_under a1, Result.andThen, hget, hKd.check w _ hlx, f1, hz1, Sem.run_pure]
        · cases ok
          · exact hzd
          · simp only [if_true, D.is, valsAll]
            exact ⟨_, rfl, _, _, rfl, hzd, _, _, rfl, rfl, rfl⟩
      · obtain ⟨p, hp, hpk⟩ := key_at h2 f2
        have hg : mget m u = some p.2 := by rw [← f3, ← hpk]; exact mget_at h4 hp
        rw [hg] at h
        simp only at h
        have hv := vals_at h3 f2 hp
        refine ⟨if ok = true then .tuple #[e.val, .bool true] else e.val, _, ?_, ?_, h⟩
        · simp only [Instr.lookup, Sem.run_bind, run_under a1, Result.andThen, hget, hKd.check w _ hlx, f1, Sem.run_pure]
        · cases ok
          · exact hv
          · simp only [if_true, D.is, valsAll]
            exact ⟨_, rfl, _, _, rfl, hv, _, _, rfl, rfl, rfl⟩
    · exact h.elim
  · exact h.elim
theorem modify_keys {es : Array MapEntry} {j : Nat} {e : MapEntry} {v : Value} (he : es.toList[j]? = some e) : ((es.modify j fun x => { key := e.key, val := v, born := x.born }).toList.map (·.key)) = es.toList.map (·.key) ∧ ((es.modify j fun x => { key := e.key, val := v, born := x.born }).toList.map (·.val)) = (es.toList.map (·.val)).set j v := by
  have hj : j < es.toList.length := (List.getElem?_eq_some_iff.1 he).1
  constructor
  · apply List.ext_getElem?
    intro i
    simp only [Array.toList_modify, List.getElem?_map, List.getElem?_modify]
    by_cases h : j = i
    · subst h; simp [he]
    · simp [h]
  · apply List.ext_getElem?
    intro i
    simp only [Array.toList_modify, List.getElem?_map, List.getElem?_modify, List.getElem?_set]
    by_cases h : j = i
    · subst h
      have hj' : j < es.size := by simpa using hj
      simp [he, hj']
    · simp [h]
theorem modify_born {es : Array MapEntry} {j : Nat} {e : MapEntry} {k v : Value} (he : es.toList[j]? = some e) : ((es.modify j fun x => { key := k, val := v, born := x.born }).toList.map (·.born)) = es.toList.map (·.born) := by
  apply List.ext_getElem?
  intro i
  simp only [Array.toList_modify, List.getElem?_map, List.getElem?_modify]
  by_cases h : j = i
  · subst h; simp [he]
  · simp [h]
theorem valsAll_snoc {w : World} {S : Nat → Prop} : ∀ {ds : List D} {vs : List Value} {d : D} {v : Value}, valsAll w S ds vs → D.is w S d v → valsAll w S (ds ++ [d]) (vs ++ [v])
  | [], vs, d, v, h, hd => by
    simp only [valsAll] at h
    subst h
    simp only [List.nil_append, valsAll]
    exact ⟨_, _, rfl, hd, rfl⟩
  | d0 :: ds, vs, d, v, h, hd => by
    simp only [valsAll] at h
    obtain ⟨u, us, rfl, h1, h2⟩ := h
    simp only [List.cons_append, valsAll]
    exact ⟨_, _, rfl, h1, valsAll_snoc h2 hd⟩
theorem valsAll_set {w : World} {S : Nat → Prop} : ∀ {ds : List D} {vs : List Value} {j : Nat} {d : D} {v : Value}, valsAll w S ds vs → D.is w S d v → valsAll w S (ds.set j d) (vs.set j v)
  | [], vs, j, d, v, h, _ => by
    simp only [valsAll] at h
    subst h
    simp [valsAll]
  | d0 :: ds, vs, 0, d, v, h, hd => by
    simp only [valsAll] at h
    obtain ⟨u, us, rfl, _, h2⟩ := h
    simp only [List.set_cons_zero, valsAll]
    exact ⟨_, _, rfl, hd, h2⟩
  | d0 :: ds, vs, j + 1, d, v, h, hd => by
    simp only [valsAll] at h
    obtain ⟨u, us, rfl, h1, h2⟩ := h
    simp only [List.set_cons_succ, valsAll]
    exact ⟨_, _, rfl, h1, valsAll_set h2 hd⟩
theorem run_muV {P : Program} {H : Heap} {w : World} (hH : HOk w H) {t : TypeId} {x ix d : D} {v u z : Value} {K : Heap → Prop} (h : muV P H t x ix d K) (hx : D.is w H.others x v) (hi : D.is w H.others ix u) (hd : D.is w H.others d z) :
    ∃ w' H', (Instr.mapUpdate t v u z).run P w = .ok () w' ∧ HOk w' H' ∧ Ev H w H' w' ∧ K H' := by
  unfold muV at h
  split at h
  · rename_i kt et _ _ _ b kv hT hkv
    split at h
    · rename_i m hb
      obtain ⟨⟨hKd, ⟨lx, hlx⟩, hkeys⟩, h⟩ := h
      have ev := is_val hx
      subst ev
      have eu := keyVal_is hkv hi
      subst eu
      obtain ⟨d1, i, a1, a2, a3⟩ := tyi_spec hT
      injection a3 with a3
      cases d1 <;> simp [tdOf] at a3
      obtain ⟨rfl, rfl⟩ := a3
      obtain ⟨es, clock, h1, h2, h3, h4, h4s⟩ := hH _ _ hb
      have hes : ∀ e ∈ es.toList, ∃ l, keyOf P kt e.key = some l := fun e he => by
        obtain ⟨j, hj⟩ := List.getElem?_of_mem he
        obtain ⟨p, hp, hpk⟩ := key_at h2 hj
        rw [← hpk]
        exact hkeys p (List.mem_of_getElem? hp)
      have hget : ∀ (P' : Program), (getObj b).run P' w = .ok (.map es clock) w := fun P' => by simp [getObj, Sem.run, h1]
      have hset : ∀ (o : Obj), (setObj b o).run P w = .ok () (w.putObj b o) := fun o => by simp [setObj, Sem.run, h1, World.putObj]
      have fin : ∀ (es' : Array MapEntry) (c' : Nat), es'.toList.map (·.key) = (mset m u d).map (·.1) → (∀ {w' : World} {S : Nat → Prop}, valsAll w' S (m.map (·.2)) (es.toList.map (·.val)) → D.is w' S d z → valsAll w' S ((mset m u d).map (·.2)) (es'.toList.map (·.val))) → Stm (es'.toList.map (·.born)) c' →
          HOk (w.putObj b (.map es' c')) (H.upd b (.map (mset m u d))) ∧ Ev H w (H.upd b (.map (mset m u d))) (w.putObj b (.map es' c')) := by
        intro es' c' g1 g2 g3
        have hoth : ∀ c, c ≠ b → (w.putObj b (.map es' c')).heap[c]? = w.heap[c]? := fun c hc => by simp [World.putObj, Array.getElem?_setIfInBounds_ne (Ne.symm hc)]
        have hat : (w.putObj b (.map es' c')).heap[b]? = some (.map es' c') := by
          have := (Array.getElem?_eq_some_iff.1 h1).1
          simp [World.putObj, this]
        have hev : Ev H w (H.upd b (.map (mset m u d))) (w.putObj b (.map es' c')) := ev_block (by rw [hb]; simp) rfl rfl rfl (by simp [World.putObj]) hoth fun cs t fr h => by
          rw [h1] at h
          cases h
        exact ⟨hok_block hH hev hoth ⟨es', c', hat, g1, g2 (valsAll_keep hev.kept _ h3) (D.is_keep hev.kept _ hd), mset_nodup _ _ h4, g3⟩, hev⟩
      rcases hKd.find w hlx es.toList hes with ⟨f1, f2⟩ | ⟨j, e, f1, f2, f3⟩
      · have hms : mset m u d = m ++ [(u, d)] := mset_new fun p hp => by
          obtain ⟨j, hj⟩ := List.getElem?_of_mem hp
          have h5 := congrArg (·[j]?) h2
          simp only [List.getElem?_map, hj, Option.map_some] at h5
          cases he : es.toList[j]? with
          | none => rw [he] at h5; cases h5
          | some e => rw [he] at h5; simp at h5; rw [← h5]; exact f2 e (List.mem_of_getElem? he)
        obtain ⟨k1, k2⟩ := fin (es.push { key := u, val := z, born := clock }) (clock + 1) (by rw [hms]; simp [h2]) (fun hv hz => by
          rw [hms, List.map_append, Array.toList_push, List.map_append]
          exact valsAll_snoc hv hz) (by
          rw [Array.toList_push, List.map_append]
          refine ⟨fun b hb => ?_, ?_⟩
          · rcases List.mem_append.1 hb with hb | hb
            · exact Nat.lt_succ_of_lt (h4s.1 b hb)
            · simp only [List.map_cons, List.map_nil, List.mem_singleton] at hb
              omega
          · rw [List.nodup_append]
            refine ⟨h4s.2, by simp, fun a ha b hb e => ?_⟩
            simp only [List.map_cons, List.map_nil, List.mem_singleton] at hb
            have := h4s.1 a ha
            omega)
        refine ⟨_, _, ?_, k1, k2, h⟩
        simp only [Instr.mapUpdate, Sem.run_bind, run_under a1, Result.andThen, hget, hKd.check w _ hlx, f1, hset]
      · obtain ⟨p, hp, hpk⟩ := key_at h2 f2
        have hpu : p.1 = u := hpk.trans f3
        have hms : mset m u d = m.set j (u, d) := by rw [← hpu]; exact mset_at h4 hp
        have hjl : j < m.length := (List.getElem?_eq_some_iff.1 hp).1
        obtain ⟨q1, q2⟩ := modify_keys (v := z) f2
        rw [f3] at q1 q2
        obtain ⟨k1, k2⟩ := fin (es.modify j fun x => { key := u, val := z, born := x.born }) clock (by
          rw [q1, h2, hms]
          apply List.ext_getElem?
          intro i
          simp only [List.getElem?_map, List.getElem?_set]
          by_cases hi : j = i
          · subst hi
            have hmj : m[j] = p := (List.getElem?_eq_some_iff.1 hp).2
            simp [hmj, hpu, hjl]
          · simp [hi]) (fun hv hz => by
          rw [q2, hms, List.map_set]
          exact valsAll_set hv hz) (by rw [modify_born f2]; exact h4s)
        refine ⟨_, _, ?_, k1, k2, h⟩
        have hj2 : es[j]? = some e := by simpa using f2
        simp only [Instr.mapUpdate, Sem.run_bind, run_under a1, Result.andThen, hget, hKd.check w _ hlx, f1, hj2, Option.map_some, Option.getD_some, f3, hKd.stays w hlx, hset]
    · exact h.elim
  · exact h.elim
end Go.Proofs.YtgfhgeelfaalmaaGreatDoor
namespace Go.Proofs.YtgfhgeelfaalmaaGreatDoor
open Go.RowKit
set_option linter.unusedVariables false
set_option linter.unusedSimpArgs false
theorem over_row {P : Program} {H : Heap} {w : World} (hH : HOk w H) {b o sz k : Nat} {ty : TypeId} {els new : List (List D)} {us : List Value} {cs : Array Value} {fr : Nat × Nat} (hb : H b = some (.row ty o sz els)) (hw : w.heap[b]? = some (Obj.cells cs ty fr))
    (hn : ∀ e ∈ new, e.length = sz) (hu : cellsAll w H.others new.flatten us) (hul : us.length = new.length * sz) (hk : k ≤ els.length) (hfit : o + k * sz + us.length ≤ cs.size) :
    ∃ w', (storeCells ⟨b, o + k * sz, none⟩ us).run P w = .ok () w' ∧ HOk w' (H.upd b (.row ty o sz (els.take k ++ new ++ els.drop (k + new.length)))) ∧ Ev H w (H.upd b (.row ty o sz (els.take k ++ new ++ els.drop (k + new.length)))) w' := by
  obtain ⟨cs0, fr0, h1, h2, h3, h4⟩ := hH _ _ hb
  rw [hw] at h1
  injection h1 with h1
  cases h1
  obtain ⟨w', hrun, e1, e2, e3, e4, ho, cs', g1, g2, g3, g4⟩ := run_storeCells_spec (P := P) b ty fr us (o + k * sz) 0 w cs hw h2 (by omega) (cellsAll_one hu)
  have hev : Ev H w (H.upd b (.row ty o sz (els.take k ++ new ++ els.drop (k + new.length)))) w' := ev_block (by rw [hb]; simp) e1 e2 e3 e4 ho (fun cs0 t0 fr0 h0 => by
    rw [hw] at h0
    injection h0 with h0
    injection h0 with a1 a2 a3
    subst a1 a2 a3
    exact ⟨cs', _, g1, g2⟩)
  have htl : (els.take k).length = k := by rw [List.length_take]; omega
  refine ⟨w', hrun, hok_block hH hev ho ⟨cs', fr, g1, by rw [g2]; exact h2, ?_, ?_⟩, hev⟩
  · rw [g2, List.length_append, List.length_append, htl, List.length_drop]
    rcases Nat.lt_or_ge els.length (k + new.length) with hlt | hge
    · have : els.length - (k + new.length) = 0 := by omega
      rw [this, Nat.add_zero, Nat.add_mul]; omega
    · have : k + new.length + (els.length - (k + new.length)) = els.length := by omega
      rw [this]; exact h3
  · have cell' : ∀ j, w'.cell? ⟨b, j, none⟩ = cs'[j]? := fun j => cell_of_row w' b j cs' ty fr g1
    have cell0 : ∀ j, w.cell? ⟨b, j, none⟩ = cs[j]? := fun j => cell_of_row w b j cs ty fr hw
    have hne : ∀ j' : Nat, j' < o + k * sz ∨ o + k * sz + us.length ≤ j' → w'.cell? ⟨b, j', none⟩ = w.cell? ⟨b, j', none⟩ := fun j' hj => by
      rw [cell', cell0]; exact g4 j' (by omega)
    have old : ∀ (i : Nat) (el : List D), els[i]? = some el → (i < k ∨ k + new.length ≤ i) → el.length = sz ∧ cellsAt w' (H.upd b (.row ty o sz (els.take k ++ new ++ els.drop (k + new.length)))).others b (o + i * sz) el := fun i el hi hik => by
      obtain ⟨q1, q2⟩ := rowsAt_get h4 i el hi
      refine ⟨q1, ?_⟩
      obtain ⟨vs, h5, h6⟩ := cellsAt_vals q2
      refine cellsAt_of (cellsAll_keep hev.kept _ h5) fun j v hj => ?_
      have hvl := cellsAll_length h5
      have hjl : j < sz := by have := (List.getElem?_eq_some_iff.1 hj).1; omega
      rw [hne _ ?_]
      · exact h6 j v hj
      · rcases hik with hik | hik
        · left
          have : (i + 1) * sz ≤ k * sz := Nat.mul_le_mul_right _ hik
          rw [Nat.add_mul] at this; omega
        · right
          have : (k + new.length) * sz ≤ i * sz := Nat.mul_le_mul_right _ hik
          rw [Nat.add_mul] at this; omega
    refine rowsAt_of fun i el hi => ?_
    rcases Nat.lt_or_ge i k with hik | hik
    · rw [List.append_assoc, List.getElem?_append_left (by omega), List.getElem?_take, if_pos hik] at hi
      exact old i el hi (.inl hik)
    · rcases Nat.lt_or_ge i (k + new.length) with hik2 | hik2
      · rw [List.append_assoc, List.getElem?_append_right (by omega), htl, List.getElem?_append_left (by omega)] at hi
        refine ⟨hn el (List.mem_of_getElem? hi), ?_⟩
        have h5 := cellsAll_take sz (cellsAll_drop ((i - k) * sz) hu)
        rw [flat_get hn hi] at h5
        refine cellsAt_of (cellsAll_keep hev.kept _ h5) fun j v hj => ?_
        rw [List.getElem?_take] at hj
        split at hj
        · rw [List.getElem?_drop] at hj
          rw [cell', ← g3 _ v hj]
          congr 1
          have : k * sz + (i - k) * sz = i * sz := by rw [← Nat.add_mul]; congr 1; omega
          omega
        · cases hj
      · rw [List.getElem?_append_right (by rw [List.length_append]; omega), List.length_append, htl, List.getElem?_drop] at hi
        rw [show k + new.length + (i - (k + new.length)) = i by omega] at hi
        exact old i el hi (.inr hik2)
def clrV (P : Program) (H : Heap) (t : TypeId) (x : D) (K : D → Heap → Prop) : Prop :=
  match tyi P t, x with
  | some ⟨.slice e, _, _, _⟩, .os b o sz k n => (match tyi P e, H b with
    | some ⟨_, sz', _, some zs⟩, some (.row ty o' sz'' els) => zs.length = sz ∧ sz' = sz ∧ sz'' = sz ∧ o' = o ∧ zs.all Value.oneCell' = true ∧ k ≤ els.length ∧ K (.val undef) (H.upd b (.row ty o sz (els.take k)))
    | _, _ => False)
  | _, _ => False
theorem row_less {H : Heap} {w : World} {b : Nat} {ty : TypeId} {o sz k : Nat} {els : List (List D)} (h : HOk w (H.upd b (.row ty o sz els))) : HOk w (H.upd b (.row ty o sz (els.take k))) := fun c y hc => by
  by_cases e : c = b
  · subst e
    rw [Heap.upd_same] at hc
    injection hc with hc
    subst hc
    obtain ⟨cs, fr, h1, h2, h3, h4⟩ := h c _ (Heap.upd_same _ _ _)
    refine ⟨cs, fr, h1, h2, ?_, rowsAt_of fun i el hi => ?_⟩
    · have : (els.take k).length * sz ≤ els.length * sz := Nat.mul_le_mul_right _ (by rw [List.length_take]; omega)
      omega
    · rw [List.getElem?_take] at hi
      split at hi
      · obtain ⟨q1, q2⟩ := rowsAt_get h4 i el hi
        refine ⟨q1, ?_⟩
        obtain ⟨vs, h5, h6⟩ := cellsAt_vals q2
        refine cellsAt_of (cellsAll_keep ⟨Nat.le_refl _, fun b' hb' _ => ⟨?_, rfl⟩, fun _ _ _ fr h => ⟨_, fr, h, rfl⟩⟩ _ h5) h6
        unfold Heap.others at hb' ⊢
        by_cases e2 : b' = c
        · subst e2; rw [Heap.upd_same] at hb'; cases hb'
        · rw [Heap.upd_ne e2] at hb' ⊢; exact hb'
      · cases hi
  · rw [Heap.upd_ne e] at hc
    have h0 := h c y (by rw [Heap.upd_ne e]; exact hc)
    have hk : ∀ b', (H.upd b (.row ty o sz els)).others b' → (H.upd b (.row ty o sz (els.take k))).others b' := fun b' hb' => by
      unfold Heap.others at hb' ⊢
      by_cases e2 : b' = b
      · subst e2; rw [Heap.upd_same] at hb'; cases hb'
      · rw [Heap.upd_ne e2] at hb' ⊢; exact hb'
    have kept : Kept (H.upd b (.row ty o sz els)).others (H.upd b (.row ty o sz (els.take k))).others w w := ⟨Nat.le_refl _, fun b' hb' _ => ⟨hk b' hb', rfl⟩, fun _ _ _ fr h => ⟨_, fr, h, rfl⟩⟩
    cases y with
    | row t2 o2 sz2 els2 =>
      obtain ⟨cs, fr, h1, h2, h3, h4⟩ := h0
      refine ⟨cs, fr, h1, h2, h3, rowsAt_of fun i el hi => ?_⟩
      obtain ⟨q1, q2⟩ := rowsAt_get h4 i el hi
      refine ⟨q1, ?_⟩
      obtain ⟨vs, h5, h6⟩ := cellsAt_vals q2
      exact cellsAt_of (cellsAll_keep kept _ h5) h6
    | map mm =>
      obtain ⟨es, c2, h1, h2, h3, h4⟩ := h0
      exact ⟨es, c2, h1, h2, valsAll_keep kept _ h3, h4⟩
    | hid => exact h0
    | obj o => exact h0
theorem ev_row_less {H : Heap} {w w' : World} {b : Nat} {x y : HObj} (h : Ev H w (H.upd b x) w') : Ev H w (H.upd b y) w' :=
  ⟨h.os, h.tape, h.output, h.size, fun c hc hn => by
    obtain ⟨h1, h2⟩ := h.keep c hc hn
    refine ⟨h1, ?_⟩
    by_cases e : c = b
    · subst e; rw [Heap.upd_same] at h2; cases h2
    · rw [Heap.upd_ne e] at h2 ⊢; exact h2, h.shape⟩
theorem run_clrV {P : Program} {H : Heap} {w : World} (hH : HOk w H) {t ty : TypeId} {x : D} {v : Value} {K : D → Heap → Prop} (h : clrV P H t x K) (hx : D.is w H.others x v) :
    ∃ r d' w' H', (Builtin.clear_ #[t] ty #[v]).run P w = .ok r w' ∧ D.is w' H'.others d' r ∧ HOk w' H' ∧ Ev H w H' w' ∧ K d' H' := by
  unfold clrV at h
  split at h
  · rename_i e _ _ _ b o sz k n hT
    split at h
    · rename_i dE sz' byE zs ty' o' sz'' els hE hb
      obtain ⟨hzl, rfl, rfl, rfl, hone, hk, h⟩ := h
      obtain ⟨dA, iA, a1, a2, a3⟩ := tyi_spec hT
      injection a3 with a3
      cases dA <;> simp [tdOf] at a3
      subst a3
      obtain ⟨cs, fr, h1, h2, h3, h4⟩ := hH _ _ hb
      simp only [D.is] at hx
      obtain ⟨A, c, rfl, hc, hA⟩ := hx
      have hsame : (n = 0 ∨ A = none) → HOk w (H.upd b (.row ty' o' sz'' (els.take k))) ∧ Ev H w (H.upd b (.row ty' o' sz'' (els.take k))) w := fun _ => by
        have hself : H.upd b (.row ty' o' sz'' els) = H := funext fun c => by
          by_cases e : c = b
          · subst e; rw [Heap.upd_same, hb]
          · rw [Heap.upd_ne e]
        exact ⟨row_less (by rw [hself]; exact hH), ev_row_less (x := .row ty' o' sz'' els) (by rw [hself]; exact Ev.refl _ _)⟩
      by_cases hn : n = 0
      · subst hn
        obtain ⟨q1, q2⟩ := hsame (.inl rfl)
        refine ⟨undef, .val undef, w, _, ?_, is_mk _, q1, q2, h⟩
        cases A <;> simp [Builtin.clear_, run_under a1] <;> rfl
      · rcases hA with hA | ⟨rfl, cs2, t2, fr2, hw, hfit⟩
        · omega
        · rw [h1] at hw
          injection hw with hw
          injection hw with b1 b2 b3
          subst b1 b2 b3
          obtain ⟨z, hz1, hz2⟩ := run_zero hE rfl w
          have hzc : (Builtin.zeroCells z.cells n).toList = (List.replicate n zs).flatten := by
            apply List.ext_getElem?
            intro i
            have hsz : z.cells.size = zs.length := by rw [← hz2, Array.length_toList]
            have flatRep : ∀ (m i : Nat), ((List.replicate m zs).flatten)[i]? = if i < m * zs.length then zs[i % zs.length]? else none := by
              intro m
              induction m with
              | zero => intro i; simp
              | succ m ih =>
                intro i
                rw [List.replicate_succ, List.flatten_cons]
                by_cases h : i < zs.length
                · rw [List.getElem?_append_left h, if_pos (by rw [Nat.succ_mul]; omega), Nat.mod_eq_of_lt h]
                · rw [List.getElem?_append_right (by omega), ih (i - zs.length), Nat.succ_mul]
                  have : (i - zs.length) % zs.length = i % zs.length := (Nat.mod_eq_sub_mod (by omega)).symm
                  rw [this]
                  by_cases h2 : i < m * zs.length + zs.length
                  · rw [if_pos (by omega), if_pos h2]
                  · rw [if_neg (by omega), if_neg h2]
            rw [flatRep, Array.getElem?_toList]
            unfold Builtin.zeroCells
            rw [hsz, Array.getElem?_map, Array.getElem?_range]
            split
            · rename_i h
              have hp : 0 < zs.length := by
                rcases Nat.eq_zero_or_pos zs.length with h0 | h0
                · rw [h0] at h; simp at h
                · exact h0
              have hq2 : i % z.cells.size < z.cells.size := Nat.mod_lt _ (by omega)
              simp only [Option.map_some]
              rw [← hz2, Array.length_toList, Array.getElem?_toList, getElem!_pos z.cells _ hq2, Array.getElem?_eq_getElem hq2]
            · rfl
          have hflat : ((List.replicate n (zs.map D.val)).flatten : List D) = (List.replicate n zs).flatten.map .val := by
            rw [List.map_flatten, List.map_replicate]
          have hall : ∀ v ∈ (List.replicate n zs).flatten, v.oneCell' = true := fun v hv => by
            obtain ⟨l, hl, hvl⟩ := List.mem_flatten.1 hv
            rw [List.eq_of_mem_replicate hl] at hvl
            exact (List.all_eq_true.1 hone) v hvl
          have hul : ((List.replicate n zs).flatten).length = (List.replicate n (zs.map D.val)).length * sz'' := by
            rw [List.length_flatten, List.map_replicate, List.sum_replicate_nat, List.length_replicate, hzl]
          obtain ⟨w', g1, g2, g3⟩ := over_row (P := P) hH (k := k) (new := List.replicate n (zs.map .val)) (us := (List.replicate n zs).flatten) hb h1 (fun e he => by rw [List.eq_of_mem_replicate he, List.length_map, hzl]) (by rw [hflat]; exact cellsAll_vals' _ hall) hul hk (by
            rw [hul, List.length_replicate]
            have : (k + n) * sz'' ≤ (k + c) * sz'' := Nat.mul_le_mul_right _ (by omega)
            rw [Nat.add_mul] at this
            omega)
          refine ⟨undef, .val undef, w', _, ?_, is_mk _, row_less (k := k) g2 |> fun hh => ?_, ev_row_less g3, h⟩
          · obtain ⟨m, rfl⟩ : ∃ m, n = m + 1 := ⟨n - 1, by omega⟩
            simp only [Builtin.clear_, List.getElem?_toArray, List.getElem?_cons_zero, Sem.run_bind, run_under a1, Result.andThen, hz1, hzc, g1, Sem.run_pure]
            rfl
          · have : (els.take k ++ List.replicate n (zs.map D.val) ++ els.drop (k + (List.replicate n (zs.map D.val)).length)).take k = els.take k := by
              rw [List.append_assoc, List.take_append_of_le_length (by rw [List.length_take]; omega), List.take_take, Nat.min_self]
            rwa [this] at hh
    · exact h.elim
  · exact h.elim
def cpyV (P : Program) (H : Heap) (t : TypeId) (x y : D) (K : D → Heap → Prop) : Prop :=
  match tyi P t, x with
  | some ⟨.slice e, _, _, _⟩, .os b o sz k n => (match tyi P e, H b with
    | some ⟨_, sz', _, _⟩, some (.row ty o' sz'' els) => sz' = sz ∧ sz'' = sz ∧ o' = o ∧ k ≤ els.length ∧ n ≠ 0 ∧ newsP H sz y fun new => new.length ≤ n ∧ K (.val (.int .i64 (new.length : Int))) (H.upd b (.row ty o sz (els.take k ++ new ++ els.drop (k + new.length))))
    | _, _ => False)
  | _, _ => False
theorem run_cpyV {P : Program} {H : Heap} {w : World} (hH : HOk w H) {t xt ty : TypeId} {x y : D} {v u : Value} {K : D → Heap → Prop} (h : cpyV P H t x y K) (hx : D.is w H.others x v) (hy : D.is w H.others y u) :
    ∃ r d' w' H', (Builtin.copy_ #[t, xt] ty #[v, u]).run P w = .ok r w' ∧ D.is w' H'.others d' r ∧ HOk w' H' ∧ Ev H w H' w' ∧ K d' H' := by
  unfold cpyV at h
  split at h
  · rename_i e _ _ _ b o sz k n hT
    split at h
    · rename_i dE sz' byE zs ty' o' sz'' els hE hb
      obtain ⟨rfl, rfl, rfl, hk, hn, h⟩ := h
      obtain ⟨dA, iA, a1, a2, a3⟩ := tyi_spec hT
      injection a3 with a3
      cases dA <;> simp [tdOf] at a3
      subst a3
      obtain ⟨new, us, ⟨hle, hK⟩, q1, q2, q3, q4, q5⟩ := newsP_spec (P := P) hH h hy
      obtain ⟨cs, fr, h1, h2, h3, h4⟩ := hH _ _ hb
      simp only [D.is] at hx
      obtain ⟨A, c, rfl, hc, hA⟩ := hx
      rcases hA with hA | ⟨rfl, cs2, t2, fr2, hw, hfit⟩
      · omega
      · rw [h1] at hw
        injection hw with hw
        injection hw with b1 b2 b3
        subst b1 b2 b3
        obtain ⟨w', g1, g2, g3⟩ := over_row (P := P) hH (k := k) (new := new) (us := us) hb h1 q1 q2 q3 hk (by
          rw [q3]
          have : (k + new.length) * sz'' ≤ (k + c) * sz'' := Nat.mul_le_mul_right _ (by omega)
          rw [Nat.add_mul] at this
          omega)
        refine ⟨_, .val (.int .i64 (new.length : Int)), w', _, ?_, is_mk _, g2, g3, hK⟩
        have hmin : Nat.min new.length n = new.length := Nat.min_eq_left hle
        simp only [Builtin.copy_, List.getElem?_toArray, List.getElem?_cons_zero, List.getElem?_cons_succ, Sem.run_bind, run_under a1, Result.andThen, q4, hmin, run_size hE, q5 w rfl, g1, Sem.run_pure]
        rfl
    · exact h.elim
  · exact h.elim
end Go.Proofs.YtgfhgeelfaalmaaGreatDoor
