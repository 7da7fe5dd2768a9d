/- A program logic over descriptions of values. Part 3: memory. -/
import Derived.Test.YtdcnpkpibbefhaaL2
import Derived.Laws.Cells
namespace Go.Proofs.Ytdcnpkpibbefhaa
open Go.RowKit
set_option linter.unusedVariables false

/-- What is asked of a type. -/
inductive TD where
  | int (k : IntKind)
  | bool
  | string
  | slice (e : TypeId)
  | array (n : Nat) (e : TypeId)
  | struct (fs : List (Nat × TypeId))
  | ptr (e : TypeId)
  | map (k e : TypeId)
  | other
structure Ti where
  d : TD
  size : Nat
  bytes : Nat
  zero : Option (List Value)
def tdOf : TypeDesc → TD
  | .int k => .int k
  | .bool => .bool
  | .string => .string
  | .slice e => .slice e
  | .array n e => .array n e
  | .struct fs => .struct (fs.toList.map fun f => (f.offset, f.type))
  | .pointer e => .ptr e
  | .map k e => .map k e
  | _ => .other
def tyi (P : Program) (t : TypeId) : Option Ti :=
  match P.underlying t, P.info? t with
  | some d, some i => some ⟨tdOf d, i.size, i.bytes, i.zero.map (·.cells.toList)⟩
  | _, _ => none
def TD.agg : TD → Bool
  | .array _ _ | .struct _ => true
  | _ => false
theorem tyi_spec {P : Program} {t : TypeId} {T : Ti} (h : tyi P t = some T) : ∃ d i, P.underlying t = some d ∧ P.info? t = some i ∧ T = ⟨tdOf d, i.size, i.bytes, i.zero.map (·.cells.toList)⟩ := by
  unfold tyi at h
  split at h
  · rename_i d i h1 h2
    exact ⟨d, i, h1, h2, by injection h with h; exact h.symm⟩
  · cases h
theorem run_under {P : Program} {t : TypeId} {d : TypeDesc} (h : P.underlying t = some d) (w : World) : (underlying t).run P w = .ok d w := run_underlying h w
theorem run_isAgg {P : Program} {t : TypeId} {T : Ti} (h : tyi P t = some T) (w : World) : (isAgg t).run P w = .ok T.d.agg w := by
  obtain ⟨d, i, h1, h2, rfl⟩ := tyi_spec h
  unfold isAgg
  simp only [Sem.run_bind, run_under h1, Result.andThen]
  cases d <;> rfl
theorem run_size {P : Program} {t : TypeId} {T : Ti} (h : tyi P t = some T) (w : World) : (sizeOf t).run P w = .ok T.size w := by
  obtain ⟨d, i, h1, h2, rfl⟩ := tyi_spec h
  unfold sizeOf typeInfo program
  simp [Sem.run, h2]
theorem run_info {P : Program} {t : TypeId} {T : Ti} (h : tyi P t = some T) (w : World) : ∃ i, (typeInfo t).run P w = .ok i w ∧ T.size = i.size ∧ T.bytes = i.bytes ∧ T.zero = i.zero.map (·.cells.toList) ∧ P.info? t = some i := by
  obtain ⟨d, i, h1, h2, rfl⟩ := tyi_spec h
  refine ⟨i, ?_, rfl, rfl, rfl, h2⟩
  unfold typeInfo program
  simp [Sem.run, h2]

section
variable {w : World} {S : Nat → Prop}
theorem cellsAll_length : ∀ {cs : List D} {vs : List Value}, cellsAll w S cs vs → vs.length = cs.length
  | [], _, h => by simp only [cellsAll] at h; subst h; rfl
  | d :: ds, vs, h => by
    simp only [cellsAll] at h
    obtain ⟨u, us, rfl, _, _, h⟩ := h
    simp [cellsAll_length h]
theorem cellsAll_one : ∀ {cs : List D} {vs : List Value}, cellsAll w S cs vs → ∀ v ∈ vs, v.oneCell' = true
  | [], _, h, v, hv => by simp only [cellsAll] at h; subst h; cases hv
  | d :: ds, vs, h, v, hv => by
    simp only [cellsAll] at h
    obtain ⟨u, us, rfl, h1, _, h⟩ := h
    rcases List.mem_cons.1 hv with rfl | hv
    · exact h1
    · exact cellsAll_one h v hv
theorem cellsAll_append : ∀ {cs ds : List D} {vs us : List Value}, cellsAll w S cs vs → cellsAll w S ds us → cellsAll w S (cs ++ ds) (vs ++ us)
  | [], ds, vs, us, h, h' => by simp only [cellsAll] at h; subst h; exact h'
  | d :: cs, ds, vs, us, h, h' => by
    simp only [cellsAll] at h
    obtain ⟨u, us', rfl, h1, h2, h⟩ := h
    simp only [List.cons_append, cellsAll]
    exact ⟨u, _, rfl, h1, h2, cellsAll_append h h'⟩
theorem cellsAll_drop : ∀ {cs : List D} {vs : List Value} (k : Nat), cellsAll w S cs vs → cellsAll w S (cs.drop k) (vs.drop k)
  | cs, vs, 0, h => h
  | [], vs, k + 1, h => by simp only [cellsAll] at h; subst h; simp [cellsAll]
  | d :: cs, vs, k + 1, h => by
    simp only [cellsAll] at h
    obtain ⟨u, us', rfl, h1, h2, h⟩ := h
    exact cellsAll_drop k h
theorem cellsAll_take : ∀ {cs : List D} {vs : List Value} (k : Nat), cellsAll w S cs vs → cellsAll w S (cs.take k) (vs.take k)
  | cs, vs, 0, h => by simp [cellsAll]
  | [], vs, k + 1, h => by simp only [cellsAll] at h; subst h; simp [cellsAll]
  | d :: cs, vs, k + 1, h => by
    simp only [cellsAll] at h
    obtain ⟨u, us', rfl, h1, h2, h⟩ := h
    simp only [List.take_succ_cons, cellsAll]
    exact ⟨u, _, rfl, h1, h2, cellsAll_take k h⟩
theorem cellsAll_get : ∀ {cs : List D} {vs : List Value}, cellsAll w S cs vs → ∀ (j : Nat) (d : D), cs[j]? = some d → ∃ v, vs[j]? = some v ∧ v.oneCell' = true ∧ D.is w S d v
  | [], _, _, j, d, hd => by simp at hd
  | d0 :: ds, vs, h, j, d, hd => by
    simp only [cellsAll] at h
    obtain ⟨u, us, rfl, h1, h2, h3⟩ := h
    cases j with
    | zero => exact ⟨u, rfl, h1, by simp at hd; subst hd; exact h2⟩
    | succ j => simpa using cellsAll_get h3 j d (by simpa using hd)
theorem cellsAll_set : ∀ {cs : List D} {vs : List Value} (j : Nat) {d : D} {v : Value}, cellsAll w S cs vs → v.oneCell' = true → D.is w S d v → cellsAll w S (cs.set j d) (vs.set j v)
  | [], _, j, d, v, h, _, _ => by simp only [cellsAll] at h; subst h; simp [cellsAll]
  | d0 :: ds, vs, j, d, v, h, hv, hd => by
    simp only [cellsAll] at h
    obtain ⟨u, us, rfl, h1, h2, h3⟩ := h
    cases j with
    | zero => simp only [List.set_cons_zero, cellsAll]; exact ⟨v, us, rfl, hv, hd, h3⟩
    | succ j => simp only [List.set_cons_succ, cellsAll]; exact ⟨u, _, rfl, h1, h2, cellsAll_set j h3 hv hd⟩
theorem cellsAll_vals : ∀ (vs : List Value), (∀ v ∈ vs, v.oneCell' = true) → cellsAll w S (vs.map .val) vs
  | [], _ => by simp [cellsAll]
  | v :: vs, h => by
    simp only [List.map_cons, cellsAll, D.is]
    exact ⟨v, vs, rfl, h v (by simp), rfl, cellsAll_vals vs fun u hu => h u (by simp [hu])⟩
theorem cellsAt_vals {b : Nat} : ∀ {cs : List D} {o : Nat}, cellsAt w S b o cs → ∃ vs, cellsAll w S cs vs ∧ ∀ (j : Nat) (v : Value), vs[j]? = some v → w.cell? ⟨b, o + j, none⟩ = some v
  | [], _, _ => ⟨[], by simp [cellsAll], fun j v h => by simp at h⟩
  | d :: ds, o, h => by
    simp only [cellsAt] at h
    obtain ⟨⟨u, h1, h2, h3⟩, h4⟩ := h
    obtain ⟨vs, h5, h6⟩ := cellsAt_vals h4
    refine ⟨u :: vs, by simp only [cellsAll]; exact ⟨u, vs, rfl, h2, h3, h5⟩, fun j v hj => ?_⟩
    cases j with
    | zero => simp at hj; subst hj; exact h1
    | succ j => rw [show o + (j + 1) = o + 1 + j by omega]; exact h6 j v (by simpa using hj)
theorem cellsAt_of {b : Nat} : ∀ {cs : List D} {o : Nat} {vs : List Value}, cellsAll w S cs vs → (∀ (j : Nat) (v : Value), vs[j]? = some v → w.cell? ⟨b, o + j, none⟩ = some v) → cellsAt w S b o cs
  | [], _, _, _, _ => by simp only [cellsAt]
  | d :: ds, o, vs, h, hc => by
    simp only [cellsAll] at h
    obtain ⟨u, us, rfl, h1, h2, h3⟩ := h
    simp only [cellsAt]
    exact ⟨⟨u, by simpa using hc 0 u rfl, h1, h2⟩, cellsAt_of h3 fun j v hj => by
      have := hc (j + 1) v (by simpa using hj)
      rwa [show o + (j + 1) = o + 1 + j by omega] at this⟩
theorem cellsAt_drop {b o : Nat} {cs : List D} (h : cellsAt w S b o cs) (k : Nat) : cellsAt w S b (o + k) (cs.drop k) := by
  obtain ⟨vs, h1, h2⟩ := cellsAt_vals h
  refine cellsAt_of (cellsAll_drop k h1) fun j v hj => ?_
  rw [show o + k + j = o + (k + j) by omega]
  exact h2 _ v (by simpa [List.getElem?_drop] using hj)
theorem cellsAt_take {b o : Nat} {cs : List D} (h : cellsAt w S b o cs) (k : Nat) : cellsAt w S b o (cs.take k) := by
  obtain ⟨vs, h1, h2⟩ := cellsAt_vals h
  refine cellsAt_of (cellsAll_take k h1) fun j v hj => ?_
  refine h2 j v ?_
  rw [List.getElem?_take] at hj
  split at hj
  · exact hj
  · cases hj
theorem rowsAt_get {b sz : Nat} : ∀ {els : List (List D)} {o : Nat}, rowsAt w S b sz o els → ∀ (i : Nat) (el : List D), els[i]? = some el → el.length = sz ∧ cellsAt w S b (o + i * sz) el
  | [], _, _, i, el, h => by simp at h
  | e :: els, o, h, i, el, hi => by
    simp only [rowsAt] at h
    cases i with
    | zero => simp at hi; subst hi; simpa using ⟨h.1, h.2.1⟩
    | succ i =>
      have := rowsAt_get h.2.2 i el (by simpa using hi)
      rw [show o + (i + 1) * sz = o + sz + i * sz by rw [Nat.add_mul]; omega]
      exact this
theorem rowsAt_of {b sz : Nat} : ∀ {els : List (List D)} {o : Nat}, (∀ (i : Nat) (el : List D), els[i]? = some el → el.length = sz ∧ cellsAt w S b (o + i * sz) el) → rowsAt w S b sz o els
  | [], _, _ => by simp only [rowsAt]
  | e :: els, o, h => by
    simp only [rowsAt]
    have h0 := h 0 e rfl
    refine ⟨h0.1, by simpa using h0.2, rowsAt_of fun i el hi => ?_⟩
    have := h (i + 1) el (by simpa using hi)
    rwa [show o + (i + 1) * sz = o + sz + i * sz by rw [Nat.add_mul]; omega] at this
theorem rowsAt_drop {b sz o : Nat} {els : List (List D)} (h : rowsAt w S b sz o els) (k : Nat) : rowsAt w S b sz (o + k * sz) (els.drop k) :=
  rowsAt_of fun i el hi => by
    have := rowsAt_get h (k + i) el (by simpa [List.getElem?_drop] using hi)
    rwa [show o + k * sz + i * sz = o + (k + i) * sz by rw [Nat.add_mul]; omega]
theorem rowsAt_take {b sz o : Nat} {els : List (List D)} (h : rowsAt w S b sz o els) (k : Nat) : rowsAt w S b sz o (els.take k) :=
  rowsAt_of fun i el hi => by
    rw [List.getElem?_take] at hi
    split at hi
    · exact rowsAt_get h i el hi
    · cases hi
end

/-- Several cells stored one behind the other. -/
theorem run_storeCells_spec {P : Program} (b : Nat) (t : TypeId) (fr : Nat × Nat) : ∀ (vs : List Value) (o i : Nat) (w : World) (cs : Array Value), w.heap[b]? = some (Obj.cells cs t fr) → Free fr cs.size → o + i + vs.length ≤ cs.size → (∀ v ∈ vs, v.oneCell' = true) →
    ∃ w', (storeCells ⟨b, o, none⟩ vs i).run P w = .ok () w' ∧ w'.os = w.os ∧ w'.tape = w.tape ∧ w'.output = w.output ∧ w'.heap.size = w.heap.size ∧ (∀ c, c ≠ b → w'.heap[c]? = w.heap[c]?) ∧
      ∃ cs', w'.heap[b]? = some (Obj.cells cs' t fr) ∧ cs'.size = cs.size ∧ (∀ j v, vs[j]? = some v → cs'[o + i + j]? = some v) ∧ ∀ j, (j < o + i ∨ o + i + vs.length ≤ j) → cs'[j]? = cs[j]?
  | [], o, i, w, cs, hb, _, _, _ => ⟨w, rfl, rfl, rfl, rfl, rfl, fun _ _ => rfl, cs, hb, rfl, fun j v h => by simp at h, fun _ _ => rfl⟩
  | v :: vs, o, i, w, cs, hb, hfr, hlen, h1 => by
    have hlt : o + i < cs.size := by simp at hlen; omega
    have hadd : (⟨b, o, none⟩ : Addr).add i = ⟨b, o + i, none⟩ := Addr.add_lit _ _ _
    have hcell : w.cell? ⟨b, o + i, none⟩ = some cs[o + i] := by
      rw [cell_of_row w b (o + i) cs t fr hb]; simp [hlt]
    have hfz : w.frozen? ⟨b, o + i, none⟩ = false := by
      have := hfr (o + i) hlt
      simp only [World.frozen?, hb]
      simpa using fun h => Nat.le_of_not_lt (fun h2 => this ⟨h, h2⟩)
    have hset : (w.setCell ⟨b, o + i, none⟩ v).heap[b]? = some (Obj.cells (cs.setIfInBounds (o + i) v) t fr) := by
      simp [World.setCell, Array.getElem?_modify, hb]
    obtain ⟨w', h2, e1, e2, e3, e4, h3, cs', h4, h5, h6, h7⟩ := run_storeCells_spec b t fr vs o (i + 1) (w.setCell ⟨b, o + i, none⟩ v) _ hset (by simpa using hfr) (by simp at hlen ⊢; omega) (fun u hu => h1 u (by simp [hu]))
    refine ⟨w', ?_, e1, e2, e3, by simpa [World.setCell] using e4, fun c hc => (h3 c hc).trans (Below.heap_setCell w _ v c hc), cs', h4, by simpa using h5, ?_, ?_⟩
    · simp only [storeCells, Sem.run_bind, hadd, run_store P w _ v _ (h1 v (by simp)), hcell, hfz]
      exact h2
    · intro j u hj
      cases j with
      | zero =>
        simp at hj
        subst hj
        rw [Nat.add_zero, h7 (o + i) (by omega)]
        simp [hlt]
      | succ j => rw [show o + i + (j + 1) = o + (i + 1) + j by omega]; exact h6 j u (by simpa using hj)
    · intro j hj
      rw [h7 j (by simp at hj ⊢; omega)]
      rw [Array.getElem?_setIfInBounds]
      rw [if_neg (by simp at hj; omega)]

/-- The cells of a value's description. -/
def D.cells : D → Option (List D)
  | .agg cs => some cs
  | .val (.agg _) | .val (.tuple _) | .tup _ => none
  | d => some [d]
theorem D.cells_is {w : World} {S : Nat → Prop} {d : D} {v : Value} {cs : List D} (h : D.is w S d v) (hc : d.cells = some cs) : cellsAll w S cs v.cells.toList := by
  have one : ∀ {d : D} {v : Value}, D.is w S d v → v.oneCell' = true → cellsAll w S [d] v.cells.toList := fun {d v} h h1 => by
    have : v.cells = #[v] := by cases v <;> first | rfl | cases h1
    rw [this]
    simp only [cellsAll]
    exact ⟨v, [], rfl, h1, h, rfl⟩
  cases d with
  | agg ds =>
    simp only [D.cells] at hc
    injection hc with hc
    subst hc
    simp only [D.is] at h
    obtain ⟨vs, rfl, h⟩ := h
    exact h
  | val u =>
    have e : v = u := by simpa only [D.is] using h
    subst e
    cases v <;> simp only [D.cells] at hc <;> first | (injection hc with hc; subst hc; exact one h rfl) | cases hc
  | tup ds => simp only [D.cells] at hc; cases hc
  | seq sz els =>
    simp only [D.cells] at hc
    injection hc with hc
    subst hc
    have h' := h
    simp only [D.is] at h'
    obtain ⟨A, c, rfl, _⟩ := h'
    exact one h rfl
  | os b o sz k n =>
    simp only [D.cells] at hc
    injection hc with hc
    subst hc
    have h' := h
    simp only [D.is] at h'
    obtain ⟨A, c, rfl, _⟩ := h'
    exact one h rfl
  | ep b o sz i k =>
    simp only [D.cells] at hc
    injection hc with hc
    subst hc
    have h' := h
    simp only [D.is] at h'
    subst h'
    exact one h rfl
  | rp cs =>
    simp only [D.cells] at hc
    injection hc with hc
    subst hc
    have h' := h
    simp only [D.is] at h'
    obtain ⟨b, o, rfl, _⟩ := h'
    exact one h rfl
  | fn f cs =>
    simp only [D.cells] at hc
    injection hc with hc
    subst hc
    have h' := h
    simp only [D.is] at h'
    obtain ⟨vs, rfl, _⟩ := h'
    exact one h rfl
  | emp =>
    simp only [D.cells] at hc
    injection hc with hc
    subst hc
    have h' := h
    simp only [D.is] at h'
    obtain ⟨A, rfl⟩ := h'
    exact one h rfl

/-- A new block. -/
theorem ev_alloc {H : Heap} {w : World} (o : Obj) (x : HObj) (hH : HOk w H) : Ev H w (H.upd w.heap.size x) (w.alloc o) where
  os := rfl
  tape := rfl
  output := rfl
  size := by simp
  keep := fun b hb hn => ⟨Below.heap_alloc w o b hb, by rw [Heap.upd_ne (by omega)]; exact hn⟩
  shape := fun b cs t fr hb => ⟨cs, fr, by rw [Below.heap_alloc w o b (Array.getElem?_eq_some_iff.1 hb).1]; exact hb, rfl⟩
theorem fresh_none {H : Heap} {w : World} (hH : HOk w H) : H w.heap.size = none := by
  cases e : H w.heap.size with
  | none => rfl
  | some x => exact absurd (hH.lt e) (by omega)
theorem Ev.objAt {H H' : Heap} {w w' : World} (h : Ev H w H' w') {b : Nat} {x : HObj} (hb : w'.heap[b]? = w.heap[b]?) (hx : objAt w H b x) : objAt w' H' b x := by
  cases x with
  | row t o sz els =>
    obtain ⟨cs, fr, h1, h2, h3, h4⟩ := hx
    refine ⟨cs, fr, hb.trans h1, h2, h3, rowsAt_of fun i el hi => ?_⟩
    obtain ⟨h5, h6⟩ := rowsAt_get h4 i el hi
    refine ⟨h5, ?_⟩
    obtain ⟨vs, h7, h8⟩ := cellsAt_vals h6
    refine cellsAt_of (cellsAll_keep h.kept el h7) fun j v hj => ?_
    rw [← h8 j v hj]
    exact World.cell?_of_block hb
  | map m =>
    obtain ⟨es, c, h1, h2, h3⟩ := hx
    exact ⟨es, c, hb.trans h1, h2, valsAll_keep h.kept _ h3⟩
  | hid => exact Nat.lt_of_lt_of_le hx h.size
theorem HOk.alloc {H : Heap} {w : World} (hH : HOk w H) {o : Obj} {x : HObj} (hx : objAt (w.alloc o) (H.upd w.heap.size x) w.heap.size x) : HOk (w.alloc o) (H.upd w.heap.size x) := fun b y hb => by
  by_cases e : b = w.heap.size
  · subst e
    rw [Heap.upd_same] at hb
    injection hb with hb
    subst hb
    exact hx
  · rw [Heap.upd_ne e] at hb
    exact (ev_alloc o x hH).objAt (Below.heap_alloc w o b (hH.lt hb)) (hH b y hb)
theorem free0 (n : Nat) : Free (0, 0) n := fun i _ h => by omega
/-- A new row, whole. -/
theorem row_alloc {H : Heap} {w : World} (hH : HOk w H) (t : TypeId) (sz : Nat) (els : List (List D)) (vs : List Value) (hv : cellsAll w H.others els.flatten vs) (hsz : ∀ el ∈ els, el.length = sz) (hlen : els.length * sz ≤ vs.length) :
    HOk (w.alloc (Obj.cells ⟨vs⟩ t)) (H.upd w.heap.size (.row t 0 sz els)) := by
  refine hH.alloc ⟨⟨vs⟩, (0, 0), heap_alloc_new w _, free0 _, by simpa using hlen, ?_⟩
  have hk := cellsAll_keep (ev_alloc (Obj.cells ⟨vs⟩ t) (.row t 0 sz els) hH).kept _ hv
  refine rowsAt_of fun i el hi => ⟨hsz el (List.mem_of_getElem? hi), ?_⟩
  have hdrop : ∀ (i : Nat) (els : List (List D)), (∀ el ∈ els, el.length = sz) → ∀ el, els[i]? = some el → (els.flatten.drop (i * sz)).take sz = el := by
    intro i
    induction i with
    | zero =>
      intro els hs el h0
      cases els with
      | nil => simp at h0
      | cons e els =>
        simp at h0
        subst h0
        have := hs e (by simp)
        simp [← this]
    | succ i ih =>
      intro els hs el h0
      cases els with
      | nil => simp at h0
      | cons e els =>
        have h1 := hs e (by simp)
        have h2 := ih els (fun x hx => hs x (by simp [hx])) el (by simpa using h0)
        rw [List.flatten_cons, Nat.add_mul, Nat.one_mul, List.drop_append, List.drop_of_length_le (by omega), h1, List.nil_append]
        simpa [Nat.add_sub_cancel] using h2
  have he := hdrop i els hsz el hi
  have h1 := cellsAll_take sz (cellsAll_drop (i * sz) hk)
  rw [he] at h1
  refine cellsAt_of h1 fun j v hj => ?_
  rw [Nat.zero_add, cell_of_row _ _ _ _ _ _ (heap_alloc_new w _)]
  rw [List.getElem?_take] at hj
  split at hj
  · rw [List.getElem?_drop] at hj
    simpa using hj
  · cases hj
end Go.Proofs.Ytdcnpkpibbefhaa
