/- A program logic over descriptions of values. Part 11: one operation; the operations of a region. -/
import Derived.Test.YtdcnpkpibbefhaaLA
namespace Go.Proofs.Ytdcnpkpibbefhaa
open Go.RowKit
set_option linter.unusedVariables false
set_option linter.unusedSimpArgs false

def lenV (P : Program) (H : Heap) (t : TypeId) (x : D) (K : D → Prop) : Prop :=
  match tyi P t with
  | some T => (match T.d, x with
    | .slice _, .seq _ els => K (.val (.int .i64 (els.length : Int)))
    | .slice _, .os _ _ _ _ n => K (.val (.int .i64 (n : Int)))
    | .slice _, .val (.slice _ n _) => K (.val (.int .i64 (n : Int)))
    | .slice _, .emp => K (.val (.int .i64 0))
    | .string, .val (.string s) => K (.val (.int .i64 (s.size : Int)))
    | .array n _, _ => K (.val (.int .i64 (n : Int)))
    | .map _ _, .val (.map none) => K (.val (.int .i64 0))
    | .map _ _, .val (.map (some b)) => (match H b with
      | some (.map m) => K (.val (.int .i64 (m.length : Int)))
      | _ => False)
    | _, _ => False)
  | none => False
theorem run_lenV {P : Program} {H : Heap} {w : World} (hH : HOk w H) {t ty : TypeId} {x : D} {v : Value} {K : D → Prop} (h : lenV P H t x K) (hx : D.is w H.others x v) : ∃ u, (Builtin.len_ #[t] ty #[v]).run P w = .ok u w ∧ K (.val u) := by
  unfold lenV at h
  split at h
  · rename_i T hT
    obtain ⟨d, i, a1, a2, rfl⟩ := tyi_spec hT
    simp only at h
    split at h
    · rename_i e1
      cases d <;> simp [tdOf] at e1
      simp only [D.is] at hx
      obtain ⟨A, c, rfl, _⟩ := hx
      exact ⟨_, by simp [Builtin.len_, run_under a1, goInt], h⟩
    · rename_i e1
      cases d <;> simp [tdOf] at e1
      simp only [D.is] at hx
      obtain ⟨A, c, rfl, _⟩ := hx
      exact ⟨_, by simp [Builtin.len_, run_under a1, goInt], h⟩
    · rename_i e1
      cases d <;> simp [tdOf] at e1
      have e := is_val hx
      subst e
      exact ⟨_, by simp [Builtin.len_, run_under a1, goInt], h⟩
    · rename_i e1
      cases d <;> simp [tdOf] at e1
      simp only [D.is] at hx
      obtain ⟨A, rfl⟩ := hx
      exact ⟨.int .i64 0, by simp [Builtin.len_, run_under a1, goInt], h⟩
    · rename_i e1
      cases d <;> simp [tdOf] at e1
      have e := is_val hx
      subst e
      refine ⟨_, ?_, h⟩
      unfold Builtin.len_
      simp only [List.getElem?_toArray, List.getElem?_cons_zero, Sem.run_bind, run_under a1, Result.andThen, Sem.run_pure]
      rfl
    · rename_i e1
      cases d <;> simp [tdOf] at e1
      obtain ⟨rfl, rfl⟩ := e1
      exact ⟨_, by simp [Builtin.len_, run_under a1, goInt], h⟩
    · rename_i e1
      cases d <;> simp [tdOf] at e1
      have e := is_val hx
      subst e
      exact ⟨.int .i64 0, by simp [Builtin.len_, run_under a1, goInt], h⟩
    · rename_i e1
      cases d <;> simp [tdOf] at e1
      have e := is_val hx
      subst e
      split at h
      · rename_i m hb
        obtain ⟨es, c, h1, h2, h3⟩ := hH _ _ hb
        have hl : es.size = m.length := by
          have := congrArg List.length h2
          simpa using this
        refine ⟨_, ?_, h⟩
        simp [Builtin.len_, run_under a1, getObj, Sem.run, h1, goInt, hl]
      · exact h.elim
    · exact h.elim
  · exact h.elim
def minV (xs : List D) (K : D → Prop) : Prop :=
  match xs with
  | [.val (.int k a), .val (.int _ b)] => K (.val (.int k (min a b)))
  | _ => False
def maxV (xs : List D) (K : D → Prop) : Prop :=
  match xs with
  | [.val (.int k a), .val (.int _ b)] => K (.val (.int k (max a b)))
  | _ => False
theorem run_minV {P : Program} {w : World} {S : Nat → Prop} {ts : Array TypeId} {ty : TypeId} {xs : List D} {vs : List Value} {K : D → Prop} (h : minV xs K) (hx : valsAll w S xs vs) : ∃ u, (Builtin.min_ ts ty ⟨vs⟩).run P w = .ok u w ∧ K (.val u) := by
  unfold minV at h
  split at h
  · rename_i k a k' b
    simp only [valsAll, D.is] at hx
    obtain ⟨_, _, rfl, rfl, _, _, rfl, rfl, rfl⟩ := hx
    refine ⟨_, rfl, ?_⟩
    have : (if b < a then b else a) = min a b := by split <;> omega
    rw [this]
    exact h
  · exact h.elim
theorem run_maxV {P : Program} {w : World} {S : Nat → Prop} {ts : Array TypeId} {ty : TypeId} {xs : List D} {vs : List Value} {K : D → Prop} (h : maxV xs K) (hx : valsAll w S xs vs) : ∃ u, (Builtin.max_ ts ty ⟨vs⟩).run P w = .ok u w ∧ K (.val u) := by
  unfold maxV at h
  split at h
  · rename_i k a k' b
    simp only [valsAll, D.is] at hx
    obtain ⟨_, _, rfl, rfl, _, _, rfl, rfl, rfl⟩ := hx
    refine ⟨_, rfl, ?_⟩
    have : (if b > a then b else a) = max a b := by split <;> omega
    rw [this]
    exact h
  · exact h.elim
def ncV (x : D) (K : D → Prop) : Prop :=
  match x with
  | .ep _ _ _ _ _ | .rp _ | .fn _ _ => K x
  | _ => False
theorem run_ncV {P : Program} {w : World} {S : Nat → Prop} {ρ : Operand → Value} {o : Oper} {y : Operand} (e : o.op = .nilCheck y) {x : D} {K : D → Prop} (h : ncV x K) (hx : D.is w S x (ρ y)) : (execOp ρ o).run P w = .ok (.value (ρ y)) w ∧ K x := by
  unfold ncV at h
  split at h
  · simp only [D.is] at hx; exact ⟨by simp only [execOp, e, hx]; rfl, h⟩
  · simp only [D.is] at hx; obtain ⟨b, o', hv, _⟩ := hx; exact ⟨by simp only [execOp, e, hv]; rfl, h⟩
  · simp only [D.is] at hx; obtain ⟨vs, hv, _⟩ := hx; exact ⟨by simp only [execOp, e, hv]; rfl, h⟩
  · exact h.elim
def exV (x : D) (i : Nat) (K : D → Prop) : Prop :=
  match x with
  | .tup ds => (match ds[i]? with
    | some d => K d
    | none => False)
  | _ => False
theorem run_exV {P : Program} {w : World} {S : Nat → Prop} {x : D} {v : Value} {i : Nat} {K : D → Prop} (h : exV x i K) (hx : D.is w S x v) : ∃ u d, (Instr.extract v i).run P w = .ok u w ∧ D.is w S d u ∧ K d := by
  unfold exV at h
  split at h
  · split at h
    · rename_i d hd
      simp only [D.is] at hx
      obtain ⟨vs, rfl, hx⟩ := hx
      obtain ⟨u, h1, h2⟩ := valsAll_get hx i d hd
      refine ⟨u, d, ?_, h2, h⟩
      unfold Instr.extract
      simp only [List.getElem?_toArray, h1]
      rfl
    · exact h.elim
  · exact h.elim

/-- 'append(s, make([]T, n)...)' at a slice without room. -/
def azV (P : Program) (H : Heap) (t xt : TypeId) (s x : D) (K : D → Heap → Prop) : Prop :=
  match tyi P t, tyi P xt, x with
  | some ⟨.slice e, _, _, _⟩, some ⟨.int _, _, _, _⟩, .val (.int _ n) => (match tyi P e with
    | some ⟨_, sz, by_, some zs⟩ => zs.length = sz ∧ sz ≠ 0 ∧ by_ ≠ 0 ∧ zs.all Value.oneCell' = true ∧ 0 < n ∧ (match s with
      | .val (.slice none 0 0) | .emp => (n * (by_ : Int) ≤ 140737488355328 ∧ ∀ b, H b = none → K (.os b 0 sz 0 n.toNat) (H.upd b (.row e 0 sz (List.replicate n.toNat (zs.map .val))))) ∨
          (n * (by_ : Int) ≤ 281474976710656 ∧ ∀ b c, H b = none → n.toNat ≤ c → K (.val (.slice (some ⟨b, 0, none⟩) n.toNat c)) (H.upd b (.row e 0 sz (List.replicate c (zs.map .val)))))
      | _ => False)
    | _ => False)
  | _, _, _ => False
theorem zeroCells_get {zs : List Value} {z : Array Value} (hz : z.toList = zs) (n j q : Nat) (hj : j < n) (hq : q < zs.length) : (Builtin.zeroCells z n)[j * zs.length + q]? = zs[q]? := by
  have hsz : z.size = zs.length := by rw [← hz, Array.length_toList]
  have hlt : j * zs.length + q < n * zs.length := mul_lt_cells hj hq
  unfold Builtin.zeroCells
  rw [hsz, Array.getElem?_map, Array.getElem?_range, if_pos hlt]
  simp only [Option.map_some]
  rw [Nat.add_comm, Nat.add_mul_mod_self_right, Nat.mod_eq_of_lt hq]
  have hq2 : q < z.size := by omega
  rw [← hz]
  simp [hq2]
theorem zero_rows {w : World} {S : Nat → Prop} {b sz k m : Nat} {e : TypeId} {fr : Nat × Nat} {zs : List Value} {z : Array Value} (hz : z.toList = zs) (hzl : zs.length = sz) (hone : zs.all Value.oneCell' = true) (hb : w.heap[b]? = some (Obj.cells (Builtin.zeroCells z m ++ Builtin.zeroCells z k) e fr)) :
    rowsAt w S b sz 0 (List.replicate (m + k) (zs.map .val)) := by
  have hzs : z.size = zs.length := by rw [← hz, Array.length_toList]
  refine rowsAt_of fun j el hj => ?_
  rw [List.getElem?_replicate] at hj
  split at hj
  · rename_i hjl
    injection hj with hj
    subst hj
    refine ⟨by simp [hzl], ?_⟩
    refine cellsAt_of (cellsAll_vals zs (fun v hv => (List.all_eq_true.1 hone) v hv)) fun q v hq => ?_
    have hqz : q < zs.length := (List.getElem?_eq_some_iff.1 hq).1
    have hm : ∀ x, (Builtin.zeroCells z x).size = x * zs.length := fun x => by simp only [Builtin.zeroCells, Array.size_map, Array.size_range, hzs]
    rw [cell_of_row _ _ _ _ _ _ hb, Nat.zero_add, ← hzl]
    by_cases hjm : j < m
    · have hlt : j * zs.length + q < (Builtin.zeroCells z m).size := by rw [hm]; exact mul_lt_cells hjm hqz
      rw [Array.getElem?_append_left hlt, zeroCells_get hz m j q hjm hqz]
      exact hq
    · have hge : (Builtin.zeroCells z m).size ≤ j * zs.length + q := by
        rw [hm]
        have : m * zs.length ≤ j * zs.length := Nat.mul_le_mul_right _ (by omega)
        omega
      rw [Array.getElem?_append_right hge, hm]
      have hs : j * zs.length + q - m * zs.length = (j - m) * zs.length + q := by
        rw [Nat.sub_mul]
        have : m * zs.length ≤ j * zs.length := Nat.mul_le_mul_right _ (by omega)
        omega
      rw [hs, zeroCells_get hz k (j - m) q (by omega) hqz]
      exact hq
  · cases hj
theorem run_azV {P : Program} {H : Heap} {w : World} (hH : HOk w H) {t xt ty : TypeId} {s x : D} {v u : Value} {K : D → Heap → Prop} (h : azV P H t xt s x K) (hs : D.is w H.others s v) (hx : D.is w H.others x u) :
    ∃ r d' w' H', (Builtin.append_ #[t, xt] ty #[v, u]).run P w = .ok r w' ∧ D.is w' H'.others d' r ∧ HOk w' H' ∧ Ev H w H' w' ∧ K d' H' := by
  unfold azV at h
  split at h
  · rename_i e _ _ _ kx _ _ _ kn n hT hX
    have ex := is_val hx
    subst ex
    split at h
    · rename_i dE sz by_ zs hE
      obtain ⟨hzl, hsz0, hb0, hone, hn, h⟩ := h
      obtain ⟨d, i, a1, a2, a3⟩ := tyi_spec hT
      injection a3 with a3
      cases d <;> simp [tdOf] at a3
      subst a3
      obtain ⟨dx, ix, c1, c2, c3⟩ := tyi_spec hX
      injection c3 with c3
      cases dx <;> simp [tdOf] at c3
      obtain ⟨A, rfl, hk⟩ : ∃ A, v = .slice A 0 0 ∧ ((n * (by_ : Int) ≤ 140737488355328 ∧ ∀ b, H b = none → K (.os b 0 sz 0 n.toNat) (H.upd b (.row e 0 sz (List.replicate n.toNat (zs.map .val))))) ∨
          (n * (by_ : Int) ≤ 281474976710656 ∧ ∀ b c, H b = none → n.toNat ≤ c → K (.val (.slice (some ⟨b, 0, none⟩) n.toNat c)) (H.upd b (.row e 0 sz (List.replicate c (zs.map .val)))))) := by
        split at h
        · exact ⟨none, is_val hs, h⟩
        · simp only [D.is] at hs
          obtain ⟨A, rfl⟩ := hs
          exact ⟨A, rfl, h⟩
        · exact h.elim
      obtain ⟨m, rfl⟩ : ∃ m : Nat, n = (m : Int) := Int.eq_ofNat_of_zero_le (by omega)
      have hm : 0 < m := by omega
      have hmb : m * by_ ≤ 281474976710656 := by
        have : ((m * by_ : Nat) : Int) ≤ 281474976710656 := by
          rw [Int.natCast_mul]
          rcases hk with hk | hk
          · exact Int.le_trans hk.1 (by omega)
          · exact hk.1
        omega
      have hmle : m ≤ 281474976710656 := Nat.le_trans (Nat.le_mul_of_pos_right m (Nat.pos_of_ne_zero hb0)) hmb
      obtain ⟨ii, b1, b2, b3, b4, b5⟩ := run_info hE w
      simp only at b3
      have binfo : ∀ W, (typeInfo e).run P W = .ok ii W := fun W => by
        obtain ⟨i', d1, _, _, _, d5⟩ := run_info hE W
        rw [b5] at d5
        injection d5 with d5
        subst d5
        exact d1
      have hnext : Builtin.nextslicecap (0 + m) 0 = m := by
        unfold Builtin.nextslicecap
        rw [if_pos (by omega), Nat.zero_add]
      have hwr : IntKind.i64.wrap (m : Int) = (m : Int) := by rw [IntKind.wrap_i64]; omega
      have hn0 : ¬ (0 + m ≤ 0) := by omega
      have hn1 : ¬ (((0 + m : Nat) : Int) > IntKind.i64.max ∧ (True ∨ ii.bytes = 0)) := by
        rintro ⟨h1, _⟩
        have : IntKind.i64.max = 9223372036854775807 := by decide
        omega
      have hn2 : ¬ (Builtin.nextslicecap (0 + m) 0 * ii.bytes > 2 ^ 48) := by rw [hnext, ← b3]; omega
      have hn3 : ¬ ((m : Int) < 0) := by omega
      have hn4 : ¬ ((m : Int) * (ii.bytes : Int) > 2 ^ 48) := by
        rw [← b3]
        have : ((m * by_ : Nat) : Int) ≤ 281474976710656 := by omega
        rw [Int.natCast_mul] at this
        omega
      have hn5 : ¬ (m * sz = 0) := by
        intro h0
        rcases Nat.mul_eq_zero.1 h0 with h1 | h1 <;> omega
      obtain ⟨cap, hcap⟩ : ∃ cap, cap = (Question.appendCap (0 + m) 0 e).cut (w.tape w.drawn (.appendCap (0 + m) 0 e)) := ⟨_, rfl⟩
      have hge : 0 + m ≤ cap := by rw [hcap]; simp [Question.cut]
      have hchoose : (choose (.appendCap (0 + m) 0 e)).run P w = .ok cap w.drew := by
        rw [hcap]
        simp only [choose, Sem.run, Question.forced]
        rfl
      have hask : ∀ k W, (askRoom k).run P W = .ok () W := fun k W => by
        unfold askRoom
        split <;> rfl
      obtain ⟨z, hz1, hz2⟩ := run_zero hE rfl w.drew
      have hzs : z.cells.size = zs.length := by rw [← Array.length_toList, hz2]
      have hfc : ∀ W, (Builtin.firstCells sz 0 (.slice A 0 0)).run P W = .ok #[] W := fun W => by cases A <;> simp [Builtin.firstCells, loadCells, loadCellsFrom]
      have hrun : (Builtin.append_ #[t, xt] ty #[.slice A 0 0, .int kn (m : Int)]).run P w = .ok (.slice (some ⟨w.heap.size, 0, none⟩) (0 + m) cap) (w.drew.alloc (Obj.cells (Builtin.zeroCells z.cells m ++ Builtin.zeroCells z.cells (cap - (0 + m))) e)) := by
        unfold Builtin.append_
        simp only [List.getElem?_toArray, List.getElem?_cons_zero, List.getElem?_cons_succ, Sem.run_bind, run_under a1, run_under c1, Result.andThen, run_size hE, if_true, asInt, asIntOf, hwr, if_neg hn3, binfo, if_neg hn4, Int.toNat_natCast, Sem.run_pure, if_neg hn0, if_neg hn1, if_neg hn2, hchoose, hask, hfc, Bool.not_true, Bool.false_eq_true, if_false, if_neg hn5, hz1, newRow, newObj, Sem.run]
        rw [Array.empty_append]
        rfl
      have hcs : (Builtin.zeroCells z.cells m ++ Builtin.zeroCells z.cells (cap - (0 + m))).size = cap * sz := by
        simp only [Array.size_append, Builtin.zeroCells, Array.size_map, Array.size_range]
        rw [hzs, hzl, ← Nat.add_mul]
        congr 1
        omega
      have hrows : ∀ S, rowsAt (w.drew.alloc (Obj.cells (Builtin.zeroCells z.cells m ++ Builtin.zeroCells z.cells (cap - (0 + m))) e)) S w.heap.size sz 0 (List.replicate cap (zs.map .val)) := fun S => by
        have := zero_rows (S := S) (k := cap - (0 + m)) (m := m) hz2 hzl hone (heap_alloc_new w.drew (Obj.cells (Builtin.zeroCells z.cells m ++ Builtin.zeroCells z.cells (cap - (0 + m))) e))
        rwa [show m + (cap - (0 + m)) = cap by omega] at this
      rcases hk with ⟨_, hk⟩ | ⟨_, hk⟩
      · refine ⟨_, _, _, _, hrun, ?_, ?_, (ev_drew H w).trans (ev_alloc _ _ hH.drew), hk w.heap.size (fresh_none hH)⟩
        · simp only [D.is, Int.toNat_natCast]
          refine ⟨_, _, by rw [Nat.zero_add], by omega, .inr ⟨by simp, _, e, (0, 0), heap_alloc_new w.drew _, ?_⟩⟩
          rw [hcs, Nat.zero_add, Nat.zero_add]
          exact Nat.le_refl _
        · refine HOk.alloc hH.drew ⟨_, (0, 0), heap_alloc_new w.drew _, free0 _, ?_, ?_⟩
          · rw [hcs, List.length_replicate, Int.toNat_natCast, Nat.zero_add]
            exact Nat.mul_le_mul_right _ (by omega)
          · have h1 : ∀ S, rowsAt (w.drew.alloc (Obj.cells (Builtin.zeroCells z.cells m ++ Builtin.zeroCells z.cells (cap - (0 + m))) e)) S w.heap.size sz 0 (List.replicate m (zs.map .val)) := fun S => by
              have := rowsAt_take (hrows S) m
              rwa [List.take_replicate, Nat.min_eq_left (by omega)] at this
            exact h1 _
      · refine ⟨_, _, _, _, hrun, ?_, ?_, (ev_drew H w).trans (ev_alloc _ _ hH.drew), hk w.heap.size cap (fresh_none hH) (by omega)⟩
        · simp only [D.is, Int.toNat_natCast, Nat.zero_add]
        · refine HOk.alloc hH.drew ⟨_, (0, 0), heap_alloc_new w.drew _, free0 _, ?_, ?_⟩
          · rw [hcs, List.length_replicate, Nat.zero_add]
            exact Nat.le_refl _
          · exact hrows _
    · exact h.elim
  · exact h.elim
def cpV (x : D) (K : D → Prop) : Prop :=
  match x with
  | .val (.slice _ _ c) => K (.val (.int .i64 (c : Int)))
  | .emp => K (.val (.int .i64 0))
  | _ => False
/-- The arguments of a call, the parts of a literal. -/
def St.evs (s : St) (xs : Array Operand) : List D := xs.toList.map s.ev
def St.parts (s : St) (ps : Array (Nat × Operand)) : List (Nat × D) := ps.toList.map fun p => (p.1, s.ev p.2)
theorem Match.evs_ {cx : Cx} {s : St} {a : Act} {w : World} (m : Match cx s a w) (xs : Array Operand) : valsAll w s.H.others (s.evs xs) (xs.map a.eval).toList := by
  unfold St.evs
  rw [Array.toList_map]
  induction xs.toList with
  | nil => simp [valsAll]
  | cons x l ih => simp only [List.map_cons, valsAll]; exact ⟨_, _, rfl, m.ev_ x, ih⟩
theorem Match.parts_ {cx : Cx} {s : St} {a : Act} {w : World} (m : Match cx s a w) (ps : Array (Nat × Operand)) : partsIs w s.H.others (s.parts ps) (ps.map fun (i, x) => (i, a.eval x)).toList := by
  unfold St.parts
  rw [Array.toList_map]
  induction ps.toList with
  | nil => simp [partsIs]
  | cons p l ih =>
    obtain ⟨i, x⟩ := p
    simp only [List.map_cons, partsIs]
    exact ⟨_, _, rfl, m.ev_ x, ih⟩
theorem Match.opt_ {cx : Cx} {s : St} {a : Act} {w : World} (m : Match cx s a w) (x : Option Operand) : optIs w s.H.others (x.map s.ev) (x.map a.eval) := by
  cases x with
  | none => trivial
  | some x => exact m.ev_ x
def biV (P : Program) (s : St) (b : Builtin) (args : List D) (ts : Array TypeId) (K : D → Heap → Prop) : Prop :=
  match b, args with
  | .append, [x, y] => (match ts.toList with
    | [t, xt] => (match tyi P xt with
      | some ⟨.int _, _, _, _⟩ => azV P s.H t xt x y K
      | _ => apV P s.H t xt x y K)
    | _ => False)
  | .cap, [x] => (match ts.toList with
    | [t] => (match tyi P t with
      | some ⟨.slice _, _, _, _⟩ => cpV x fun d => K d s.H
      | _ => False)
    | _ => False)
  | .len, [x] => (match ts.toList with
    | [t] => lenV P s.H t x fun d => K d s.H
    | _ => False)
  | .min, xs => minV xs fun d => K d s.H
  | .max, xs => maxV xs fun d => K d s.H
  | _, _ => False
theorem run_biV {P : Program} {s : St} {w : World} (hH : HOk w s.H) {b : Builtin} {args : List D} {vs : List Value} {ts : Array TypeId} {ty : TypeId} {cs : Array Bool} {K : D → Heap → Prop} (h : biV P s b args ts K) (hx : valsAll w s.H.others args vs) :
    ∃ r d' w' H', (builtin b ts ty cs ⟨vs⟩).run P w = .ok (.value r) w' ∧ D.is w' H'.others d' r ∧ HOk w' H' ∧ Ev s.H w H' w' ∧ K d' H' := by
  have lift : ∀ {sm : Sem Value} {r : Value} {w' : World}, sm.run P w = .ok r w' → (do pure (Next.value (← sm)) : Sem Next).run P w = .ok (.value r) w' := fun h => by
    simp only [Sem.run_bind, h, Result.andThen, Sem.run_pure]
  unfold biV at h
  split at h
  · split at h
    · rename_i t xt hts
      simp only [valsAll] at hx
      obtain ⟨v, _, rfl, hv, u, _, rfl, hu, rfl⟩ := hx
      have e : ts = #[t, xt] := Array.ext' (by simpa using hts)
      subst e
      split at h
      · obtain ⟨r, d', w', H', h1, h2, h3, h4, h5⟩ := run_azV (ty := ty) hH h hv hu
        exact ⟨r, d', w', H', lift h1, h2, h3, h4, h5⟩
      · obtain ⟨r, d', w', H', h1, h2, h3, h4, h5⟩ := run_apV (ty := ty) hH h hv hu
        exact ⟨r, d', w', H', lift h1, h2, h3, h4, h5⟩
    · exact h.elim
  · split at h
    · rename_i t hts
      split at h
      · rename_i hT
        obtain ⟨dd, ii, a1, a2, a3⟩ := tyi_spec hT
        injection a3 with a3
        cases dd <;> simp [tdOf] at a3
        simp only [valsAll] at hx
        obtain ⟨v, _, rfl, hv, rfl⟩ := hx
        have e : ts = #[t] := Array.ext' (by simpa using hts)
        subst e
        unfold cpV at h
        split at h
        · have e := is_val hv
          subst e
          exact ⟨_, _, w, s.H, lift (by simp [Builtin.cap_, run_under a1, goInt]), is_mk _, hH, Ev.refl _ _, h⟩
        · simp only [D.is] at hv
          obtain ⟨A, rfl⟩ := hv
          exact ⟨.int .i64 0, _, w, s.H, lift (by simp [Builtin.cap_, run_under a1, goInt]), is_mk _, hH, Ev.refl _ _, h⟩
        · exact h.elim
      · exact h.elim
    · exact h.elim
  · split at h
    · rename_i t hts
      simp only [valsAll] at hx
      obtain ⟨v, _, rfl, hv, rfl⟩ := hx
      have e : ts = #[t] := Array.ext' (by simpa using hts)
      subst e
      obtain ⟨u, h1, h2⟩ := run_lenV (ty := ty) hH h hv
      exact ⟨u, _, w, s.H, lift h1, is_mk _, hH, Ev.refl _ _, h2⟩
    · exact h.elim
  · obtain ⟨u, h1, h2⟩ := run_minV (P := P) (ts := ts) (ty := ty) h hx
    exact ⟨u, _, w, s.H, lift h1, is_mk _, hH, Ev.refl _ _, h2⟩
  · obtain ⟨u, h1, h2⟩ := run_maxV (P := P) (ts := ts) (ty := ty) h hx
    exact ⟨u, _, w, s.H, lift h1, is_mk _, hH, Ev.refl _ _, h2⟩
  · exact h.elim
/-- A call. -/
def clV (P : Program) (s : St) (c : Call) (K : D → Heap → Prop) (other : Prop) : Prop :=
  match c.callee with
  | .value f => (match s.ev f with
    | .fn g caps => Does P g (s.evs c.args ++ caps) s.H K
    | _ => other)
  | .builtin b => biV P s b (s.evs c.args) c.argTypes K
  | _ => other
theorem valsAll_append {w : World} {S : Nat → Prop} : ∀ {cs ds : List D} {vs us : List Value}, valsAll w S cs vs → valsAll w S ds us → valsAll w S (cs ++ ds) (vs ++ us)
  | [], ds, vs, us, h, h' => by simp only [valsAll] at h; subst h; exact h'
  | d :: cs, ds, vs, us, h, h' => by
    simp only [valsAll] at h
    obtain ⟨u, us', rfl, h2, h⟩ := h
    simp only [List.cons_append, valsAll]
    exact ⟨u, _, rfl, h2, valsAll_append h h'⟩
def selV (b : Bool) (A B : Prop) : Prop := if b = true then A else B
theorem selV_eq (b : Bool) (A B : Prop) : selV b A B = if b = true then A else B := rfl
theorem ite_and (c : Prop) [Decidable c] (A B : Prop) : (if c then A else B) = ((c → A) ∧ (¬c → B)) := by
  by_cases h : c <;> simp [h]
theorem selV_iff {b : Bool} {A B : Prop} : selV b A B ↔ (b = true → A) ∧ (b = false → B) := by cases b <;> simp [selV]
theorem selW_iff {b want : Bool} {A B : Prop} : selV (b == want) A B ↔ (b = want → A) ∧ (b = !want → B) := by cases b <;> cases want <;> simp [selV]
theorem selV_t {b : Bool} {A B : Prop} (h : selV b A B) : b = true → A := fun e => by subst e; simpa [selV] using h
theorem selV_f {b : Bool} {A B : Prop} (h : selV b A B) : b = false → B := fun e => by subst e; simpa [selV] using h
/-- One operation. -/

def stepOp (cx : Cx) (o : Oper) (s : St) (K : St → Prop) : Prop :=
  match o.op with
  | .move x | .assign x => K (s.put o.dst (s.ev x))
  | .pick c x y => (match s.ev c with
    | .val (.bool b) => selV b (K (s.put o.dst (s.ev x))) (K (s.put o.dst (s.ev y)))
    | _ => False)
  | .alloc t => alV cx.P s.H t fun d H => K ((s.withH H).put o.dst d)
  | .box t x => bxV s.H t (s.ev x) fun d H => K ((s.withH H).put o.dst d)
  | .build t ps => bdV cx.P t (s.parts ps) fun d => K (s.put o.dst d)
  | .buildSlice t n ps => bsV cx.P s.H t n (s.parts ps) fun d H => K ((s.withH H).put o.dst d)
  | .load t x => ldV cx.P s.H t (s.ev x) fun d => K (s.put o.dst d)
  | .store t x y => stV cx.P s.H t (s.ev x) (s.ev y) fun H => K ((s.withH H).put o.dst (.val undef))
  | .nilCheck x => ncV (s.ev x) fun d => K (s.put o.dst d)
  | .binOp op t x y _ => binV cx.P op t (s.ev x) (s.ev y) fun d => K (s.put o.dst d)
  | .unOp op _ x => unV op (s.ev x) fun d => K (s.put o.dst d)
  | .convert a b x => cvV cx.P s.H a b (s.ev x) fun d => K (s.put o.dst d)
  | .makeFunc (.func f) first caps => first.toList = [] ∧ K (s.put o.dst (.fn f (s.evs caps)))
  | .makeSlice t n c => mkV cx.P s.H t (s.ev n) (s.ev c) fun d H => K ((s.withH H).put o.dst d)
  | .slice t x lo hi mx => slV cx.P s.H t (s.ev x) (lo.map s.ev) (hi.map s.ev) (mx.map s.ev) fun d => K (s.put o.dst d)
  | .fieldAddr t x f => faV cx.P t (s.ev x) f fun d => K (s.put o.dst d)
  | .field t x f => fieldV cx.P t (s.ev x) f fun d => K (s.put o.dst d)
  | .indexAddr t x i => iaV cx.P s.H t (s.ev x) (s.ev i) fun d => K (s.put o.dst d)
  | .index t x i => ixV cx.P t (s.ev x) (s.ev i) fun d => K (s.put o.dst d)
  | .extract x i => exV (s.ev x) i fun d => K (s.put o.dst d)
  | .call c => clV cx.P s c (fun d H => K ((s.withH H).put o.dst d)) (WO cx o K s)
  | _ => WO cx o K s
theorem step_sound {cx : Cx} {o : Oper} {s : St} {K : St → Prop} (hd : okd cx.n o.dst) (h : stepOp cx o s K) : WO cx o K s := by
  have lift : ∀ {P : Program} {w : World} {sm : Sem Value} {r : Value} {w' : World}, sm.run P w = .ok r w' → (do pure (Next.value (← sm)) : Sem Next).run P w = .ok (.value r) w' := fun h => by
    simp only [Sem.run_bind, h, Result.andThen, Sem.run_pure]
  unfold stepOp at h
  split at h
  case h_1 x e => exact WO_pure (by simp [e]) hd fun a w m => ⟨_, _, by simp [execOp, e], m.ev_ x, h⟩
  case h_2 x e => exact WO_pure (by simp [e]) hd fun a w m => ⟨_, _, by simp [execOp, e], m.ev_ x, h⟩
  case h_3 c x y e =>
    refine WO_pure (by simp [e]) hd fun a w m => ?_
    split at h
    · rename_i b hb
      have hc := m.ev_ c
      rw [hb] at hc
      have hc' := is_val hc
      cases b with
      | true => exact ⟨_, _, by simp [execOp, e, hc', asBool], m.ev_ x, selV_t h rfl⟩
      | false => exact ⟨_, _, by simp [execOp, e, hc', asBool], m.ev_ y, selV_f h rfl⟩
    · exact h.elim
  case h_4 t e =>
    refine WO_val (by simp [e]) hd fun a w m => ?_
    obtain ⟨r, d, w', H', h1, h2, h3, h4, h5⟩ := run_alV m.H h
    exact ⟨r, w', d, H', by simp only [execOp, e]; exact lift h1, h2, h3, h4, h5⟩
  case h_5 t x e =>
    refine WO_val (by simp [e]) hd fun a w m => ?_
    obtain ⟨r, d, w', H', h1, h2, h3, h4, h5⟩ := run_bxV (P := cx.P) m.H h (m.ev_ x)
    exact ⟨r, w', d, H', by simp only [execOp, e]; exact lift h1, h2, h3, h4, h5⟩
  case h_6 t ps e =>
    refine WO_pure (by simp [e]) hd fun a w m => ?_
    obtain ⟨r, d, h1, h2, h3⟩ := run_bdV h (m.parts_ ps)
    exact ⟨r, d, by simp only [execOp, e]; exact lift h1, h2, h3⟩
  case h_7 t n ps e =>
    refine WO_val (by simp [e]) hd fun a w m => ?_
    obtain ⟨r, d, w', H', h1, h2, h3, h4, h5⟩ := run_bsV m.H h (m.parts_ ps)
    exact ⟨r, w', d, H', by simp only [execOp, e]; exact lift h1, h2, h3, h4, h5⟩
  case h_8 t x e =>
    refine WO_pure (by simp [e]) hd fun a w m => ?_
    obtain ⟨r, d, h1, h2, h3⟩ := run_ldV m.H h (m.ev_ x)
    exact ⟨r, d, by simp only [execOp, e]; exact lift h1, h2, h3⟩
  case h_9 t x y e =>
    refine WO_skip (by simp [e]) hd fun a w m => ?_
    obtain ⟨w', H', h1, h2, h3, h4⟩ := run_stV m.H h (m.ev_ x) (m.ev_ y)
    exact ⟨w', H', by simp only [execOp, e, Sem.run_bind, h1, Result.andThen, Sem.run_pure], h2, h3, h4⟩
  case h_10 x e =>
    refine WO_pure (by simp [e]) hd fun a w m => ?_
    obtain ⟨h1, h2⟩ := run_ncV (P := cx.P) e h (m.ev_ x)
    exact ⟨_, _, h1, m.ev_ x, h2⟩
  case h_11 op t x y _ e =>
    refine WO_pure (by simp [e]) hd fun a w m => ?_
    obtain ⟨r, h1, h2⟩ := run_binV (p := x) (q := y) h (m.ev_ x) (m.ev_ y)
    exact ⟨r, _, by simp only [execOp, e]; exact lift h1, is_mk _, h2⟩
  case h_12 op _ x e =>
    refine WO_pure (by simp [e]) hd fun a w m => ?_
    obtain ⟨r, h1, h2⟩ := run_unV (P := cx.P) h (m.ev_ x)
    exact ⟨r, _, by simp only [execOp, e]; exact lift h1, is_mk _, h2⟩
  case h_13 p q x e =>
    refine WO_pure (by simp [e]) hd fun a w m => ?_
    obtain ⟨r, h1, h2⟩ := run_cvV m.H h (m.ev_ x)
    exact ⟨r, _, by simp only [execOp, e]; exact lift h1, is_mk _, h2⟩
  case h_14 f first caps e =>
    refine WO_pure (by simp [e]) hd fun a w m => ?_
    obtain ⟨h0, h⟩ := h
    have hf : first = #[] := Array.ext' (by simpa using h0)
    subst hf
    refine ⟨.func (.func f) #[] (caps.map a.eval), _, by simp [execOp, e, Instr.makeFunc], ?_, h⟩
    simp only [D.is]
    exact ⟨(caps.map a.eval).toList, rfl, m.evs_ caps⟩
  case h_15 t n c e =>
    refine WO_val (by simp [e]) hd fun a w m => ?_
    obtain ⟨r, d, w', H', h1, h2, h3, h4, h5⟩ := run_mkV m.H h (m.ev_ n) (m.ev_ c)
    exact ⟨r, w', d, H', by simp only [execOp, e]; exact lift h1, h2, h3, h4, h5⟩
  case h_16 t x lo hi mx e =>
    refine WO_pure (by simp [e]) hd fun a w m => ?_
    obtain ⟨r, d, h1, h2, h3⟩ := run_slV h (m.ev_ x) (m.opt_ lo) (m.opt_ hi) (m.opt_ mx)
    exact ⟨r, d, by simp only [execOp, e]; exact lift h1, h2, h3⟩
  case h_17 t x f e =>
    refine WO_pure (by simp [e]) hd fun a w m => ?_
    obtain ⟨r, d, h1, h2, h3⟩ := run_faV h (m.ev_ x)
    exact ⟨r, d, by simp only [execOp, e]; exact lift h1, h2, h3⟩
  case h_18 t x f e =>
    refine WO_pure (by simp [e]) hd fun a w m => ?_
    obtain ⟨r, d, h1, h2, h3⟩ := run_fieldV h (m.ev_ x)
    exact ⟨r, d, by simp only [execOp, e]; exact lift h1, h2, h3⟩
  case h_19 t x i e =>
    refine WO_pure (by simp [e]) hd fun a w m => ?_
    obtain ⟨r, d, h1, h2, h3⟩ := run_iaV h (m.ev_ x) (m.ev_ i)
    exact ⟨r, d, by simp only [execOp, e]; exact lift h1, h2, h3⟩
  case h_20 t x i e =>
    refine WO_pure (by simp [e]) hd fun a w m => ?_
    obtain ⟨r, d, h1, h2, h3⟩ := run_ixV h (m.ev_ x) (m.ev_ i)
    exact ⟨r, d, by simp only [execOp, e]; exact lift h1, h2, h3⟩
  case h_21 x i e =>
    refine WO_pure (by simp [e]) hd fun a w m => ?_
    obtain ⟨r, d, h1, h2, h3⟩ := run_exV (P := cx.P) h (m.ev_ x)
    exact ⟨r, d, by simp only [execOp, e]; exact lift h1, h2, h3⟩
  case h_22 c e =>
    unfold clV at h
    split at h
    · rename_i f hcal
      split at h
      · rename_i g caps hg
        intro a w m
        refine ⟨about_FR, ?_⟩
        rw [sem_FR (by simp [e])]
        have hf := m.ev_ f
        rw [hg] at hf
        simp only [D.is] at hf
        obtain ⟨vs, hf, hcaps⟩ := hf
        have hrun : (execOp a.eval o).run cx.P w = .ok (.enter g (c.args.map a.eval ++ ⟨vs⟩)) w := by
          simp only [execOp, e, resolve, hcal, hf, Deferred.ofValue, Sem.run_bind, Sem.run_pure, Result.andThen, invoke]
          rw [Array.empty_append]
          exact h.1 _ _
        rw [hrun, Oper.uponIn_enter]
        refine ⟨fun hd0 => (by cases hd0), ?_⟩
        have hargs := valsAll_append (m.evs_ c.args) hcaps
        have hc := h.2 w _ hargs m.H
        have hcall := callsIn_FR (ro := cx.ro) (n := 9 - 1) hc
        rw [show (c.args.map a.eval ++ (⟨vs⟩ : Array Value)) = ((c.args.map a.eval).toList ++ vs).toArray from Array.ext' (by simp)]
        refine hcall.mono fun e' w' ⟨v, d, H', he, h1, h2, h3, h4⟩ => ?_
        subst he
        exact ⟨_, (m.go h3 h2).put (okd_spec hd) h1, h4⟩
      · exact h
    · rename_i b hcal
      refine WO_val (by simp [e]) hd fun a w m => ?_
      obtain ⟨r, d, w', H', h1, h2, h3, h4, h5⟩ := run_biV (cs := c.args.map fun | .const _ => true | _ => false) (ty := o.type) m.H h (m.evs_ c.args)
      refine ⟨r, w', d, H', ?_, h2, h3, h4, h5⟩
      simp only [execOp, e, resolve, hcal, Sem.run_bind, Sem.run_pure, Result.andThen, invoke]
      exact h1
    · exact h
  case h_23 => exact h

def isCall : Op → Bool
  | .call ⟨.value _, _, _⟩ => true
  | _ => false
/-- The operations of a region, in the order of the text; behind a call of a function the rest stands as 'WL'. -/
def vcOps (cx : Cx) (ops : Array Oper) (Q : Exit → St → Prop) : List Oper → St → Prop
  | [], s => Q .normal s
  | o :: rest, s => (match o.guard with
    | none => stepOp cx o s fun s' => if isCall o.op then WL cx ops rest Q s' else vcOps cx ops Q rest s'
    | some (j, want) => (match dstOf ops j with
      | some t => (match s.fr t with
        | .val (.bool b) => selV (b == want) (stepOp cx o (s.put (some t) (.val (.bool want))) fun s' => if isCall o.op then WL cx ops rest Q s' else vcOps cx ops Q rest s') (vcOps cx ops Q rest ((s.put (some t) (.val (.bool !want))).put o.dst (.val undef)))
        | .val (.tuple ⟨[]⟩) => vcOps cx ops Q rest (s.put o.dst (.val undef))
        | _ => False)
      | none => False))
def okOps (n : Nat) (ops : List Oper) : Bool := ops.all fun o => match o.dst with
  | some t => decide (t < n)
  | none => true
theorem put_it {s : St} {t : Nat} {d : D} (h : s.fr t = d) : s.put (some t) d = s := by
  cases s
  simp only [St.put] at h ⊢
  congr 1
  funext x
  by_cases e : x = t
  · rw [if_pos e, e, h]
  · rw [if_neg e]
theorem vcOps_sound {cx : Cx} {ops : List Oper} {Q : Exit → St → Prop} (hok : okOps cx.n ops = true) : ∀ {l : List Oper} {s : St}, okOps cx.n l = true → vcOps cx ops.toArray Q l s → WL cx ops.toArray l Q s
  | [], s, _, h => WL_nil h
  | o :: rest, s, hl, h => by
    simp only [okOps, List.all_cons, Bool.and_eq_true] at hl
    have hd : okd cx.n o.dst := by
      have := hl.1
      unfold okd
      cases ho : o.dst with
      | none => trivial
      | some t => rw [ho] at this; simpa using this
    have ih : ∀ s', vcOps cx ops.toArray Q rest s' → WL cx ops.toArray rest Q s' := fun s' h' => vcOps_sound hok hl.2 h'
    have ih2 : ∀ s', (if isCall o.op then WL cx ops.toArray rest Q s' else vcOps cx ops.toArray Q rest s') → WL cx ops.toArray rest Q s' := fun s' h' => by
      split at h'
      · exact h'
      · exact ih s' h'
    simp only [vcOps] at h
    split at h
    · rename_i hg
      exact WL_cons hg (WO_mono (step_sound hd h) ih2)
    · rename_i j want hg
      split at h
      · rename_i t ht
        have htn : t < cx.n := by
          unfold dstOf at ht
          cases hj : ops.toArray[j]? with
          | none => rw [hj] at ht; cases ht
          | some o' =>
            rw [hj] at ht
            have := (List.all_eq_true.1 hok) o' (by have := Array.mem_of_getElem? hj; simpa using this)
            simp at ht
            rw [ht] at this
            simpa using this
        split at h
        · rename_i b hb
          exact WL_guard hg ht htn (okd_spec hd) (.inl ⟨b, hb, fun e => by
              have h2 := selV_t h (by rw [e]; cases want <;> rfl)
              rw [put_it (by rw [hb, e])] at h2
              exact WO_mono (step_sound hd h2) ih2, fun e => by
              have h2 := selV_f h (by rw [e]; cases want <;> rfl)
              rw [put_it (by rw [hb, e])] at h2
              exact ih _ h2⟩)
        · rename_i hb
          exact WL_guard hg ht htn (okd_spec hd) (.inr ⟨hb, ih _ h⟩)
        · exact h.elim
      · exact h.elim
theorem W_ops {cx : Cx} {id : Nat} {ops : List Oper} {Q : Exit → St → Prop} {s : St} (hok : okOps cx.n ops = true) (h : vcOps cx ops.toArray Q ops s) : W cx (.region id ops.toArray false) Q s :=
  W_region (vcOps_sound hok hok h)
theorem WL_go {cx : Cx} {ops l : List Oper} {Q : Exit → St → Prop} {s : St} (hok : okOps cx.n ops = true) (hl : okOps cx.n l = true) (h : vcOps cx ops.toArray Q l s) : WL cx ops.toArray l Q s := vcOps_sound hok hl h
end Go.Proofs.Ytdcnpkpibbefhaa
