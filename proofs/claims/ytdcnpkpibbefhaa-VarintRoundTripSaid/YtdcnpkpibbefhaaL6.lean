/- A program logic over descriptions of values. Part 6: loads, stores, new memory. -/
import Derived.Test.YtdcnpkpibbefhaaL5
namespace Go.Proofs.Ytdcnpkpibbefhaa
open Go.RowKit
set_option linter.unusedVariables false

def ldC (ag : Bool) (sz : Nat) (cs : List D) (K : D → Prop) : Prop :=
  if ag then (if cs.length = sz then K (.agg cs) else sz ≤ cs.length ∧ K (.agg (cs.take sz)))
  else match cs with
    | d :: _ => K d
    | [] => False
theorem run_ldC {P : Program} {w : World} {S : Nat → Prop} {t : TypeId} {T : Ti} (hT : tyi P t = some T) {b o : Nat} {cs : List D} {K : D → Prop} (h : ldC T.d.agg T.size cs K) (hc : cellsAt w S b o cs) :
    ∃ v d, (loadVar t ⟨b, o, none⟩).run P w = .ok v w ∧ D.is w S d v ∧ K d := by
  have agg : ∀ (ds : List D), ds.length = T.size → cellsAt w S b o ds → T.d.agg = true → K (.agg ds) → ∃ v d, (loadVar t ⟨b, o, none⟩).run P w = .ok v w ∧ D.is w S d v ∧ K d := by
    intro ds hl hcs hag hk
    obtain ⟨vs, h1, h2⟩ := cellsAt_vals hcs
    have hvl := cellsAll_length h1
    refine ⟨.agg ⟨vs⟩, .agg ds, ?_, ?_, hk⟩
    · unfold loadVar
      simp only [Sem.run_bind, run_isAgg hT, hag, Result.andThen, if_true, run_size hT]
      have := run_loadCells_list (P := P) w ⟨b, o, none⟩ vs (fun j v hj => by rw [Addr.add_lit]; exact h2 j v hj)
      rw [hvl, hl] at this
      rw [this]
      rfl
    · simp only [D.is]; exact ⟨vs, rfl, h1⟩
  unfold ldC at h
  split at h
  · rename_i hag
    split at h
    · rename_i hl
      exact agg cs hl hc hag h
    · exact agg _ (by rw [List.length_take]; omega) (cellsAt_take hc _) hag h.2
  · rename_i hag
    split at h
    · rename_i d ds
      simp only [cellsAt] at hc
      obtain ⟨⟨u, h1, _, h2⟩, _⟩ := hc
      refine ⟨u, d, ?_, h2, h⟩
      unfold loadVar
      simp only [Sem.run_bind, run_isAgg hT, hag, Result.andThen]
      simp [h1]
    · exact h.elim
def ldV (P : Program) (H : Heap) (t : TypeId) (x : D) (K : D → Prop) : Prop :=
  match tyi P t with
  | some T => (match x with
    | .rp cs => ldC T.d.agg T.size cs K
    | .ep b o sz i k => (match H b with
      | some (.row _ o' sz' els) => o' = o ∧ sz' = sz ∧ (match els[i]? with
        | some el => ldC T.d.agg T.size (el.drop k) K
        | none => False)
      | _ => False)
    | _ => False)
  | none => False
theorem run_ldV {P : Program} {H : Heap} {w : World} (hH : HOk w H) {t : TypeId} {x : D} {v : Value} {K : D → Prop} (h : ldV P H t x K) (hx : D.is w H.others x v) : ∃ u d, (Instr.loadAt t v).run P w = .ok u w ∧ D.is w H.others d u ∧ K d := by
  unfold ldV at h
  split at h
  · rename_i T hT
    split at h
    · simp only [D.is] at hx
      obtain ⟨b, o, rfl, _, _, hc⟩ := hx
      obtain ⟨u, d, h1, h2, h3⟩ := run_ldC hT h hc
      refine ⟨u, d, ?_, h2, h3⟩
      simp only [Instr.loadAt, Instr.sureAddr, Sem.run_bind, Sem.run_pure, Result.andThen]
      exact h1
    · rename_i b o sz i k
      split at h
      · rename_i hb
        obtain ⟨rfl, rfl, h⟩ := h
        split at h
        · rename_i el hel
          simp only [D.is] at hx
          subst hx
          obtain ⟨cs, fr, h1, h2, h3, h4⟩ := hH _ _ hb
          have hc := cellsAt_drop (rowsAt_get h4 i el hel).2 k
          obtain ⟨u, d, h5, h6, h7⟩ := run_ldC hT h hc
          refine ⟨u, d, ?_, h6, h7⟩
          simp only [Instr.loadAt, Instr.sureAddr, Sem.run_bind, Sem.run_pure, Result.andThen]
          exact h5
        · exact h.elim
      · exact h.elim
    · exact h.elim
  · exact h.elim

/-- One own block turns. -/
theorem ev_block {H : Heap} {w w' : World} {b : Nat} {x : HObj} (hb : H b ≠ none) (e1 : w'.os = w.os) (e2 : w'.tape = w.tape) (e3 : w'.output = w.output) (e4 : w'.heap.size = w.heap.size) (ho : ∀ c, c ≠ b → w'.heap[c]? = w.heap[c]?)
    (hs : ∀ cs t fr, w.heap[b]? = some (Obj.cells cs t fr) → ∃ cs' fr', w'.heap[b]? = some (Obj.cells cs' t fr') ∧ cs'.size = cs.size) : Ev H w (H.upd b x) w' where
  os := e1
  tape := e2
  output := e3
  size := Nat.le_of_eq e4.symm
  keep := fun c hc hn => by
    have hne : c ≠ b := fun e => hb (e ▸ hn)
    exact ⟨ho c hne, by rw [Heap.upd_ne hne]; exact hn⟩
  shape := fun c cs t fr hc => by
    by_cases e : c = b
    · subst e; exact hs cs t fr hc
    · exact ⟨cs, fr, (ho c e).trans hc, rfl⟩
theorem hok_block {H : Heap} {w w' : World} {b : Nat} {x : HObj} (hH : HOk w H) (he : Ev H w (H.upd b x) w') (ho : ∀ c, c ≠ b → w'.heap[c]? = w.heap[c]?) (hx : objAt w' (H.upd b x) b x) : HOk w' (H.upd b x) := fun c y hc => by
  by_cases e : c = b
  · subst e
    rw [Heap.upd_same] at hc
    injection hc with hc
    subst hc
    exact hx
  · rw [Heap.upd_ne e] at hc
    exact he.objAt (ho c e) (hH c y hc)
def putAt (el : List D) (k : Nat) (c : List D) : List D := el.take k ++ c ++ el.drop (k + c.length)
theorem putAt_length {el c : List D} {k : Nat} (h : k + c.length ≤ el.length) : (putAt el k c).length = el.length := by simp [putAt]; omega
def stV (P : Program) (H : Heap) (t : TypeId) (x d : D) (K : Heap → Prop) : Prop :=
  match tyi P t, x, d.cells with
  | some T, .ep b o sz i k, some c => c.length = T.size ∧ (match H b with
    | some (.row ty o' sz' els) => o' = o ∧ sz' = sz ∧ (match els[i]? with
      | some el => k + c.length ≤ el.length ∧ K (H.upd b (.row ty o sz (els.set i (putAt el k c))))
      | none => False)
    | _ => False)
  | _, _, _ => False
theorem mul_lt_cells {i j sz k : Nat} (h : i < j) (hk : k < sz) : i * sz + k < j * sz := by
  have : (i + 1) * sz ≤ j * sz := Nat.mul_le_mul_right _ h
  rw [Nat.add_mul] at this
  omega
theorem run_stV {P : Program} {H : Heap} {w : World} (hH : HOk w H) {t : TypeId} {x d : D} {v u : Value} {K : Heap → Prop} (h : stV P H t x d K) (hx : D.is w H.others x v) (hd : D.is w H.others d u) :
    ∃ w' H', (Instr.storeAt t v u).run P w = .ok () w' ∧ HOk w' H' ∧ Ev H w H' w' ∧ K H' := by
  unfold stV at h
  split at h
  · rename_i T b o sz i k c hT hc
    obtain ⟨hsz, h⟩ := h
    split at h
    · rename_i ty o' sz' els hb
      obtain ⟨rfl, rfl, h⟩ := h
      split at h
      · rename_i el hel
        obtain ⟨hle, h⟩ := h
        simp only [D.is] at hx
        subst hx
        have hu := D.cells_is hd hc
        have hul := cellsAll_length hu
        have hus : u.cells.toList.length = u.cells.size := Array.length_toList
        obtain ⟨cs, fr, h1, h2, h3, h4⟩ := hH _ _ hb
        obtain ⟨hell, helc⟩ := rowsAt_get h4 i el hel
        have hilt : i < els.length := (List.getElem?_eq_some_iff.1 hel).1
        have hfit : o' + i * sz' + k + 0 + u.cells.toList.length ≤ cs.size := by
          have : (i + 1) * sz' ≤ els.length * sz' := Nat.mul_le_mul_right _ hilt
          rw [Nat.add_mul] at this
          omega
        obtain ⟨w', hrun, e1, e2, e3, e4, ho, cs', g1, g2, g3, g4⟩ := run_storeCells_spec (P := P) b ty fr u.cells.toList (o' + i * sz' + k) 0 w cs h1 h2 hfit (cellsAll_one hu)
        have hev : Ev H w (H.upd b (.row ty o' sz' (els.set i (putAt el k c)))) w' := ev_block (by rw [hb]; simp) e1 e2 e3 e4 ho (fun cs0 t0 fr0 h0 => by
          rw [h1] at h0
          injection h0 with h0
          injection h0 with a1 a2 a3
          subst a1 a2 a3
          exact ⟨cs', _, g1, g2⟩)
        refine ⟨w', _, ?_, hok_block hH hev ho ⟨cs', fr, g1, by rw [g2]; exact h2, by rw [List.length_set, g2]; exact h3, ?_⟩, hev, h⟩
        · simp only [Instr.storeAt, Instr.sureAddr, Sem.run_bind, Sem.run_pure, Result.andThen, storeVar, run_size hT]
          have : ¬ u.cells.size ≠ T.size := by
            have : u.cells.size = u.cells.toList.length := by simp
            omega
          rw [if_neg this]
          exact hrun
        · have cell' : ∀ j, w'.cell? ⟨b, j, none⟩ = cs'[j]? := fun j => cell_of_row w' b j cs' ty fr g1
          have cell0 : ∀ j, w.cell? ⟨b, j, none⟩ = cs[j]? := fun j => cell_of_row w b j cs ty fr h1
          have hne : ∀ j' : Nat, j' < o' + i * sz' + k ∨ o' + i * sz' + k + c.length ≤ j' → w'.cell? ⟨b, j', none⟩ = w.cell? ⟨b, j', none⟩ := fun j' hj => by
            rw [cell', cell0]
            exact g4 j' (by omega)
          refine rowsAt_of fun i' el' hi' => ?_
          rw [List.getElem?_set] at hi'
          by_cases e : i = i'
          · subst e
            rw [if_pos rfl] at hi'
            rw [if_pos hilt] at hi'
            injection hi' with hi'
            subst hi'
            refine ⟨by rw [putAt_length hle]; exact hell, ?_⟩
            obtain ⟨vs, h5, h6⟩ := cellsAt_vals helc
            have hvl := cellsAll_length h5
            have h5' := cellsAll_keep hev.kept _ h5
            have hu' := cellsAll_keep hev.kept _ hu
            refine cellsAt_of (vs := vs.take k ++ u.cells.toList ++ vs.drop (k + c.length)) (cellsAll_append (cellsAll_append (cellsAll_take k h5') hu') (cellsAll_drop _ h5')) fun j v hj => ?_
            rcases Nat.lt_or_ge j k with hjk | hjk
            · rw [hne _ (by omega)]
              apply h6
              rw [List.append_assoc, List.getElem?_append_left (by simp; omega), List.getElem?_take, if_pos hjk] at hj
              exact hj
            · rcases Nat.lt_or_ge j (k + c.length) with hjc | hjc
              · rw [cell', show o' + i * sz' + j = o' + i * sz' + k + 0 + (j - k) by omega]
                apply g3
                rw [List.append_assoc, List.getElem?_append_right (by simp; omega), List.getElem?_append_left (by simp; omega)] at hj
                rw [← hj]
                congr 1
                simp; omega
              · rw [hne _ (by omega)]
                apply h6
                rw [List.getElem?_append_right (by simp; omega), List.getElem?_drop] at hj
                rw [← hj]
                congr 1
                simp; omega
          · rw [if_neg e] at hi'
            obtain ⟨h5, h6⟩ := rowsAt_get h4 i' el' hi'
            refine ⟨h5, ?_⟩
            obtain ⟨vs, h7, h8⟩ := cellsAt_vals h6
            have hvl := cellsAll_length h7
            refine cellsAt_of (cellsAll_keep hev.kept _ h7) fun j v hj => ?_
            have hjl : j < sz' := by
              have := (List.getElem?_eq_some_iff.1 hj).1
              omega
            rw [hne _ ?_]
            · exact h8 j v hj
            · rcases Nat.lt_or_ge i' i with hlt | hge
              · have := mul_lt_cells hlt hjl
                omega
              · have hlt : i < i' := by omega
                have : (i + 1) * sz' ≤ i' * sz' := Nat.mul_le_mul_right _ hlt
                rw [Nat.add_mul] at this
                omega
      · exact h.elim
    · exact h.elim
  · exact h.elim

/-- A new variable. -/
def bxV (H : Heap) (elem : TypeId) (d : D) (K : D → Heap → Prop) : Prop :=
  match d.cells with
  | some cs => ∀ b, H b = none → K (.ep b 0 cs.length 0 0) (H.upd b (.row elem 0 cs.length [cs]))
  | none => False
theorem run_bxV {P : Program} {H : Heap} {w : World} (hH : HOk w H) {elem : TypeId} {d : D} {v : Value} {K : D → Heap → Prop} (h : bxV H elem d K) (hd : D.is w H.others d v) :
    ∃ r d' w' H', (do pure (Value.pointer (some (← newVar elem v))) : Sem Value).run P w = .ok r w' ∧ D.is w' H'.others d' r ∧ HOk w' H' ∧ Ev H w H' w' ∧ K d' H' := by
  unfold bxV at h
  split at h
  · rename_i cs hc
    have hu := D.cells_is hd hc
    have hl := cellsAll_length hu
    refine ⟨.pointer (some ⟨w.heap.size, 0, none⟩), _, w.alloc (Obj.cells v.cells elem), _, ?_, ?_, ?_, ev_alloc _ _ hH, h w.heap.size (fresh_none hH)⟩
    · simp only [newVar, newRow, newObj, Sem.run_bind, Sem.run_pure, Result.andThen, Sem.run]
      rfl
    · simp only [D.is]; simp
    · have := row_alloc (els := [cs]) (vs := v.cells.toList) hH elem cs.length (by simpa using hu) (fun el hel => by simp at hel; rw [hel]) (by simp at hl ⊢; omega)
      simpa using this
  · exact h.elim
def alV (P : Program) (H : Heap) (elem : TypeId) (K : D → Heap → Prop) : Prop :=
  match tyi P elem with
  | some ⟨_, _, _, some zs⟩ => zs.all Value.oneCell' = true ∧ ∀ b, H b = none → K (.ep b 0 zs.length 0 0) (H.upd b (.row elem 0 zs.length [zs.map .val]))
  | _ => False
theorem run_zero {P : Program} {t : TypeId} {T : Ti} {zs : List Value} (hT : tyi P t = some T) (hz : T.zero = some zs) (w : World) : ∃ z, (zeroValue t).run P w = .ok z w ∧ z.cells.toList = zs := by
  obtain ⟨i, h1, h2, h3, h4, h5⟩ := run_info hT w
  rw [h4] at hz
  cases hi : i.zero with
  | none => rw [hi] at hz; simp at hz
  | some z =>
    rw [hi] at hz
    simp at hz
    refine ⟨z, ?_, hz⟩
    unfold zeroValue
    simp only [Sem.run_bind, h1, Result.andThen, hi, Sem.run_pure]
theorem run_alV {P : Program} {H : Heap} {w : World} (hH : HOk w H) {elem : TypeId} {K : D → Heap → Prop} (h : alV P H elem K) :
    ∃ r d' w' H', (Instr.alloc elem true (.tuple #[])).run P w = .ok r w' ∧ D.is w' H'.others d' r ∧ HOk w' H' ∧ Ev H w H' w' ∧ K d' H' := by
  unfold alV at h
  split at h
  · rename_i hT
    obtain ⟨h1, h⟩ := h
    rename_i zs
    obtain ⟨z, h2, h3⟩ := run_zero hT rfl w
    refine ⟨.pointer (some ⟨w.heap.size, 0, none⟩), _, w.alloc (Obj.cells z.cells elem), _, ?_, ?_, ?_, ev_alloc _ _ hH, h w.heap.size (fresh_none hH)⟩
    · simp only [Instr.alloc, Sem.run_bind, h2, Result.andThen, newVar, newRow, newObj, Sem.run_pure, Sem.run]
      rfl
    · simp only [D.is]; simp
    · have hu : cellsAll w H.others (zs.map .val) z.cells.toList := by rw [h3]; exact cellsAll_vals zs (fun v hv => (List.all_eq_true.1 h1) v hv)
      have := row_alloc (els := [zs.map .val]) (vs := z.cells.toList) hH elem zs.length (by simpa using hu) (fun el hel => by simp at hel; rw [hel]; simp) (by rw [h3]; simp)
      simpa using this
  · exact h.elim
end Go.Proofs.Ytdcnpkpibbefhaa
