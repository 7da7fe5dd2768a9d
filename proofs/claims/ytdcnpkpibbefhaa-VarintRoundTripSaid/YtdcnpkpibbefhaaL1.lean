/- A program logic over descriptions of values. Part 1: descriptions, heaps of a call's own blocks, and what is kept when the world grows. -/
import Derived.Test.YtdcnpkpibbefhaaKit2
import Derived.OrdersIn
namespace Go.Proofs.Ytdcnpkpibbefhaa
open Go.RowKit
set_option linter.unusedVariables false

/-- What is known of a value. 'val': just this value. 'seq': a slice that nobody changes, by its elements (each so many cells). 'os': a slice of a row of the call's own. 'ep': a pointer into such a row.
'rp': a pointer to cells that nobody changes. 'agg', 'tup', 'fn': structs and arrays, tuples, functions with what they captured. 'emp': a slice without length and room. -/
inductive D where
  | val (v : Value)
  | seq (sz : Nat) (els : List (List D))
  | os (b o sz k n : Nat)
  | ep (b o sz i k : Nat)
  | rp (cs : List D)
  | agg (cs : List D)
  | tup (ds : List D)
  | fn (f : FuncId) (caps : List D)
  | emp
instance : Inhabited D := ⟨.val undef⟩

/-- A block of the call's own: a row of elements from offset o on; a map; something that is not spoken of. -/
inductive HObj where
  | row (t : TypeId) (o sz : Nat) (els : List (List D))
  | map (m : List (Value × D))
  | hid
abbrev Heap := Nat → Option HObj
def Heap.upd (H : Heap) (b : Nat) (x : HObj) : Heap := fun c => if c = b then some x else H c
def Heap.del (H : Heap) (b : Nat) : Heap := fun c => if c = b then none else H c
def Heap.none : Heap := fun _ => Option.none
theorem Heap.upd_same (H : Heap) (b : Nat) (x : HObj) : (H.upd b x) b = some x := if_pos rfl
theorem Heap.upd_ne {H : Heap} {b c : Nat} {x : HObj} (h : c ≠ b) : (H.upd b x) c = H c := if_neg h
theorem Heap.del_same (H : Heap) (b : Nat) : (H.del b) b = Option.none := if_pos rfl
theorem Heap.del_ne {H : Heap} {b c : Nat} (h : c ≠ b) : (H.del b) c = H c := if_neg h
/-- What H says, H' says. -/
def Heap.le (H H' : Heap) : Prop := ∀ b x, H b = some x → H' b = some x
theorem Heap.le_refl (H : Heap) : H.le H := fun _ _ h => h
theorem Heap.le_trans {H H' H'' : Heap} (h : H.le H') (h' : H'.le H'') : H.le H'' := fun b x e => h' b x (h b x e)
theorem Heap.le_none (H : Heap) : Heap.none.le H := fun b x e => by cases e
theorem Heap.le_new {H H' : Heap} {b : Nat} {x : HObj} (h : H.le H') (hb : H' b = Option.none) : H.le (H'.upd b x) := fun c y e => by
  by_cases hc : c = b
  · subst hc; rw [h _ _ e] at hb; cases hb
  · rw [Heap.upd_ne hc]; exact h _ _ e

section
variable (w : World) (S : Nat → Prop)
mutual
def D.is : D → Value → Prop
  | .val u, v => v = u
  | .seq sz els, v => ∃ A c, v = .slice A els.length c ∧ els.length ≤ c ∧ (els = [] ∨ ∃ b o, A = some ⟨b, o, none⟩ ∧ S b ∧ b < w.heap.size ∧ rowsAt b sz o els)
  | .os b o sz k n, v => ∃ A c, v = .slice A n c ∧ n ≤ c ∧ (c = 0 ∨ (A = some ⟨b, o + k * sz, none⟩ ∧ ∃ cs t fr, w.heap[b]? = some (Obj.cells cs t fr) ∧ o + (k + c) * sz ≤ cs.size))
  | .ep b o sz i k, v => v = .pointer (some ⟨b, o + i * sz + k, none⟩)
  | .rp cs, v => ∃ b o, v = .pointer (some ⟨b, o, none⟩) ∧ S b ∧ b < w.heap.size ∧ cellsAt b o cs
  | .agg cs, v => ∃ vs, v = .agg ⟨vs⟩ ∧ cellsAll cs vs
  | .tup ds, v => ∃ vs, v = .tuple ⟨vs⟩ ∧ valsAll ds vs
  | .fn f caps, v => ∃ vs, v = .func (.func f) #[] ⟨vs⟩ ∧ valsAll caps vs
  | .emp, v => ∃ A, v = .slice A 0 0
def cellsAt (b : Nat) : Nat → List D → Prop
  | _, [] => True
  | o, d :: ds => (∃ u, w.cell? ⟨b, o, none⟩ = some u ∧ u.oneCell' = true ∧ D.is d u) ∧ cellsAt b (o + 1) ds
def rowsAt (b sz : Nat) : Nat → List (List D) → Prop
  | _, [] => True
  | o, el :: els => el.length = sz ∧ cellsAt b o el ∧ rowsAt b sz (o + sz) els
def cellsAll : List D → List Value → Prop
  | [], vs => vs = []
  | d :: ds, vs => ∃ u us, vs = u :: us ∧ u.oneCell' = true ∧ D.is d u ∧ cellsAll ds us
def valsAll : List D → List Value → Prop
  | [], vs => vs = []
  | d :: ds, vs => ∃ u us, vs = u :: us ∧ D.is d u ∧ valsAll ds us
end
end

/-- The world has gone on: what was not the call's own has been kept. -/
structure Ev (H : Heap) (w : World) (H' : Heap) (w' : World) : Prop where
  os : w'.os = w.os
  tape : w'.tape = w.tape
  output : w'.output = w.output
  size : w.heap.size ≤ w'.heap.size
  keep : ∀ b : Nat, b < w.heap.size → H b = none → w'.heap[b]? = w.heap[b]? ∧ H' b = none
  shape : ∀ (b : Nat) cs t fr, w.heap[b]? = some (Obj.cells cs t fr) → ∃ cs' fr', w'.heap[b]? = some (Obj.cells cs' t fr') ∧ cs'.size = cs.size
theorem Ev.refl (H : Heap) (w : World) : Ev H w H w := ⟨rfl, rfl, rfl, Nat.le_refl _, fun _ _ h => ⟨rfl, h⟩, fun _ _ _ fr h => ⟨_, fr, h, rfl⟩⟩
theorem Ev.trans {H H' H'' : Heap} {w w' w'' : World} (h : Ev H w H' w') (h' : Ev H' w' H'' w'') : Ev H w H'' w'' where
  os := h'.os.trans h.os
  tape := h'.tape.trans h.tape
  output := h'.output.trans h.output
  size := Nat.le_trans h.size h'.size
  keep := fun b hb hn => by
    obtain ⟨h1, h2⟩ := h.keep b hb hn
    obtain ⟨h3, h4⟩ := h'.keep b (Nat.lt_of_lt_of_le hb h.size) h2
    exact ⟨h3.trans h1, h4⟩
  shape := fun b cs t fr hb => by
    obtain ⟨cs', fr', h1, h2⟩ := h.shape b cs t fr hb
    obtain ⟨cs'', fr'', h3, h4⟩ := h'.shape b cs' t fr' h1
    exact ⟨cs'', fr'', h3, h4.trans h2⟩
/-- Forgetting some of one's own blocks. -/
theorem Ev.less {H H1 H2 : Heap} {w w' : World} (h : Ev H w H1 w') (hle : H2.le H1) : Ev H w H2 w' where
  os := h.os
  tape := h.tape
  output := h.output
  size := h.size
  keep := fun b hb hn => ⟨(h.keep b hb hn).1, by
    cases e : H2 b with
    | none => rfl
    | some x => have h1 := (h.keep b hb hn).2; rw [hle _ _ e] at h1; cases h1⟩
  shape := h.shape

theorem block_lt {w : World} {b o : Nat} {u : Value} (h : w.cell? ⟨b, o, none⟩ = some u) : b < w.heap.size := block_lt_of_cell h

section
variable {w w' : World} {S S' : Nat → Prop}
/-- What descriptions lean on. -/
structure Kept (S S' : Nat → Prop) (w w' : World) : Prop where
  size : w.heap.size ≤ w'.heap.size
  cell : ∀ b : Nat, S b → b < w.heap.size → S' b ∧ w'.heap[b]? = w.heap[b]?
  shape : ∀ (b : Nat) cs t fr, w.heap[b]? = some (Obj.cells cs t fr) → ∃ cs' fr', w'.heap[b]? = some (Obj.cells cs' t fr') ∧ cs'.size = cs.size
mutual
theorem D.is_keep (k : Kept S S' w w') : ∀ (d : D) {v : Value}, D.is w S d v → D.is w' S' d v
  | .val _, _, h => h
  | .seq sz els, v, h => by
    simp only [D.is] at h ⊢
    obtain ⟨A, c, h1, h2, h3⟩ := h
    refine ⟨A, c, h1, h2, ?_⟩
    rcases h3 with h3 | ⟨b, o, h3, h4, h5, h6⟩
    · exact .inl h3
    · exact .inr ⟨b, o, h3, (k.cell b h4 h5).1, Nat.lt_of_lt_of_le h5 k.size, rowsAt_keep k b sz h4 h5 els h6⟩
  | .os b o sz i n, v, h => by
    simp only [D.is] at h ⊢
    obtain ⟨A, c, h1, h2, h3⟩ := h
    refine ⟨A, c, h1, h2, ?_⟩
    rcases h3 with h3 | ⟨h3, cs, t, fr, h4, h5⟩
    · exact .inl h3
    · obtain ⟨cs', fr', h6, h7⟩ := k.shape b cs t fr h4
      exact .inr ⟨h3, cs', t, fr', h6, by rw [h7]; exact h5⟩
  | .ep _ _ _ _ _, _, h => h
  | .rp cs, v, h => by
    simp only [D.is] at h ⊢
    obtain ⟨b, o, h1, h2, h3, h4⟩ := h
    exact ⟨b, o, h1, (k.cell b h2 h3).1, Nat.lt_of_lt_of_le h3 k.size, cellsAt_keep k b h2 h3 cs h4⟩
  | .agg cs, v, h => by
    simp only [D.is] at h ⊢
    obtain ⟨vs, h1, h2⟩ := h
    exact ⟨vs, h1, cellsAll_keep k cs h2⟩
  | .tup ds, v, h => by
    simp only [D.is] at h ⊢
    obtain ⟨vs, h1, h2⟩ := h
    exact ⟨vs, h1, valsAll_keep k ds h2⟩
  | .fn f ds, v, h => by
    simp only [D.is] at h ⊢
    obtain ⟨vs, h1, h2⟩ := h
    exact ⟨vs, h1, valsAll_keep k ds h2⟩
  | .emp, v, h => by simp only [D.is] at h ⊢; exact h
theorem cellsAt_keep (k : Kept S S' w w') (b : Nat) (hS : S b) (hb : b < w.heap.size) : ∀ (ds : List D) {o : Nat}, cellsAt w S b o ds → cellsAt w' S' b o ds
  | [], _, _ => by simp only [cellsAt]
  | d :: ds, o, h => by
    simp only [cellsAt] at h ⊢
    obtain ⟨⟨u, h1, h2, h3⟩, h4⟩ := h
    refine ⟨⟨u, ?_, h2, D.is_keep k d h3⟩, cellsAt_keep k b hS hb ds h4⟩
    rw [← h1]
    exact World.cell?_of_block (k.cell b hS hb).2
theorem rowsAt_keep (k : Kept S S' w w') (b sz : Nat) (hS : S b) (hb : b < w.heap.size) : ∀ (els : List (List D)) {o : Nat}, rowsAt w S b sz o els → rowsAt w' S' b sz o els
  | [], _, _ => by simp only [rowsAt]
  | el :: els, o, h => by
    simp only [rowsAt] at h ⊢
    exact ⟨h.1, cellsAt_keep k b hS hb el h.2.1, rowsAt_keep k b sz hS hb els h.2.2⟩
theorem cellsAll_keep (k : Kept S S' w w') : ∀ (ds : List D) {vs : List Value}, cellsAll w S ds vs → cellsAll w' S' ds vs
  | [], _, h => by simp only [cellsAll] at h ⊢; exact h
  | d :: ds, vs, h => by
    simp only [cellsAll] at h ⊢
    obtain ⟨u, us, h1, h2, h3, h4⟩ := h
    exact ⟨u, us, h1, h2, D.is_keep k d h3, cellsAll_keep k ds h4⟩
theorem valsAll_keep (k : Kept S S' w w') : ∀ (ds : List D) {vs : List Value}, valsAll w S ds vs → valsAll w' S' ds vs
  | [], _, h => by simp only [valsAll] at h ⊢; exact h
  | d :: ds, vs, h => by
    simp only [valsAll] at h ⊢
    obtain ⟨u, us, h1, h3, h4⟩ := h
    exact ⟨u, us, h1, D.is_keep k d h3, valsAll_keep k ds h4⟩
end
end
/-- The blocks that are not the call's own. -/
def Heap.others (H : Heap) : Nat → Prop := fun b => H b = Option.none
theorem Ev.kept {H H' : Heap} {w w' : World} (h : Ev H w H' w') : Kept H.others H'.others w w' :=
  ⟨h.size, fun b hb hlt => ⟨(h.keep b hlt hb).2, (h.keep b hlt hb).1⟩, h.shape⟩
theorem Kept.less {H H' : Heap} (h : H'.le H) (w : World) : Kept H.others H'.others w w :=
  ⟨Nat.le_refl _, fun b hb _ => ⟨(by
    unfold Heap.others at hb ⊢
    cases e : H' b with
    | none => rfl
    | some x => rw [h _ _ e] at hb; cases hb), rfl⟩, fun _ _ _ fr h => ⟨_, fr, h, rfl⟩⟩

/-- A frozen range without the cells from 0 to n. -/
def Free (fr : Nat × Nat) (n : Nat) : Prop := ∀ i, i < n → ¬ (fr.1 ≤ i ∧ i < fr.2)
/-- A map's entries hold what the list says. -/
def mapAt (w : World) (S : Nat → Prop) (es : Array MapEntry) (m : List (Value × D)) : Prop :=
  es.toList.map (·.key) = m.map (·.1) ∧ valsAll w S (m.map (·.2)) (es.toList.map (·.val))
/-- The object at block b is as said. -/
def objAt (w : World) (H : Heap) (b : Nat) : HObj → Prop
  | .row t o sz els => ∃ cs fr, w.heap[b]? = some (Obj.cells cs t fr) ∧ Free fr cs.size ∧ o + els.length * sz ≤ cs.size ∧ rowsAt w H.others b sz o els
  | .map m => ∃ es clock, w.heap[b]? = some (Obj.map es clock) ∧ mapAt w H.others es m
  | .hid => b < w.heap.size
/-- All of the call's own blocks are as said. -/
def HOk (w : World) (H : Heap) : Prop := ∀ b x, H b = some x → objAt w H b x
theorem HOk.lt {w : World} {H : Heap} (h : HOk w H) {b : Nat} {x : HObj} (hb : H b = some x) : b < w.heap.size := by
  have h0 := h b x hb
  cases x with
  | row t o sz els => obtain ⟨cs, fr, h1, _⟩ := h0; exact (Array.getElem?_eq_some_iff.1 h1).1
  | map m => obtain ⟨es, c, h1, _⟩ := h0; exact (Array.getElem?_eq_some_iff.1 h1).1
  | hid => exact h0
end Go.Proofs.Ytdcnpkpibbefhaa
