/- Lemmas and contracts of functions, several texts in one: LB Ty LC LO LD. -/
import Derived.Test.YtgfhgeelfaalmaaGreatDoorK01
import Derived.Test.YtgfhgeelfaalmaaGreatDoorProg
namespace Go.Proofs.YtgfhgeelfaalmaaGreatDoor
open Go.RowKit
set_option linter.unusedVariables false
set_option linter.unusedSimpArgs false
def lenV (P : Program) (H : Heap) (t : TypeId) (x : D) (K : D → Prop) : Prop :=
  match tyi P t with
  | some T => (match T.d, x with
    | .slice _, .seq _ els => K (.val (.int .i64 (els.length : Int)))
    | .slice _, .os _ _ _ _ n => K (.val (.int .i64 (n : Int)))
    | .slice _, .val (.slice _ n _) => K (.val (.int .i64 (n : Int)))
    | .slice _, .emp => K (.val (.int .i64 0))
    | .string, .val (.string s) => K (.val (.int .i64 (s.size : Int)))
    | .array n _, _ => K (.val (.int .i64 (n : Int)))
    | .map _ _, .val (.map none) => K (.val (.int .i64 0))
    | .map _ _, .val (.map (some b)) => (match H b with
      | some (.map m) => K (.val (.int .i64 (m.length : Int)))
      | _ => False)
    | _, _ => False)
  | none => False
theorem run_lenV {P : Program} {H : Heap} {w : World} (hH : HOk w H) {t ty : TypeId} {x : D} {v : Value} {K : D → Prop} (h : lenV P H t x K) (hx : D.is w H.others x v) : ∃ u, (Builtin.len_ #[t] ty #[v]).run P w = .ok u w ∧ K (.val u) := by
  unfold lenV at h
  split at h
  · rename_i T hT
    obtain ⟨d, i, a1, a2, rfl⟩ := tyi_spec hT
    simp only at h
    split at h
    · rename_i e1
      cases d <;> simp [tdOf] at e1
      simp only [D.is] at hx
      obtain ⟨A, c, rfl, _⟩ := hx
      exact ⟨_, by simp [Builtin.len_, run_under a1, goInt], h⟩
    · rename_i e1
      cases d <;> simp [tdOf] at e1
      simp only [D.is] at hx
      obtain ⟨A, c, rfl, _⟩ := hx
      exact ⟨_, by simp [Builtin.len_, run_under a1, goInt], h⟩
    · rename_i e1
      cases d <;> simp [tdOf] at e1
      have e := is_val hx
      subst e
      exact ⟨_, by simp [Builtin.len_, run_under a1, goInt], h⟩
    · rename_i e1
      cases d <;> simp [tdOf] at e1
      simp only [D.is] at hx
      obtain ⟨A, rfl⟩ := hx
      exact ⟨.int .i64 0, by simp [Builtin.len_, run_under a1, goInt], h⟩
    · rename_i e1
      cases d <;> simp [tdOf] at e1
      have e := is_val hx
      subst e
      refine ⟨_, ?_, h⟩
      unfold Builtin.len_
      simp only [List.getElem?_toArray, List.getElem?_cons_zero, Sem.run_bind, run_under a1, Result.andThen, Sem.run_pure]
      rfl
    · rename_i e1
      cases d <;> simp [tdOf] at e1
      obtain ⟨rfl, rfl⟩ := e1
      exact ⟨_, by simp [Builtin.len_, run_under a1, goInt], h⟩
    · rename_i e1
      cases d <;> simp [tdOf] at e1
      have e := is_val hx
      subst e
      exact ⟨.int .i64 0, by simp [Builtin.len_, run_under a1, goInt], h⟩
    · rename_i e1
      cases d <;> simp [tdOf] at e1
      have e := is_val hx
      subst e
      split at h
      · rename_i m hb
        obtain ⟨es, c, h1, h2, h3⟩ := hH _ _ hb
        have hl : es.size = m.length := by
          have := congrArg List.length h2
          simpa using this
        refine ⟨_, ?_, h⟩
        simp [Builtin.len_, run_under a1, getObj, Sem.run, h1, goInt, hl]
      · exact h.elim
    · exact h.elim
  · exact h.elim
def minV (xs : List D) (K : D → Prop) : Prop :=
  match xs with
  | [.val (.int k a), .val (.int _ b)] => K (.val (.int k (min a b)))
  | _ => False
def maxV (xs : List D) (K : D → Prop) : Prop :=
  match xs with
  | [.val (.int k a), .val (.int _ b)] => K (.val (.int k (max a b)))
  | _ => False
theorem run_minV {P : Program} {w : World} {S : Nat → Prop} {ts : Array TypeId} {ty : TypeId} {xs : List D} {vs : List Value} {K : D → Prop} (h : minV xs K) (hx : valsAll w S xs vs) : ∃ u, (Builtin.min_ ts ty ⟨vs⟩).run P w = .ok u w ∧ K (.val u) := by
  unfold minV at h
  split at h
  · rename_i k a k' b
    simp only [valsAll, D.is] at hx
    obtain ⟨_, _, rfl, rfl, _, _, rfl, rfl, rfl⟩ := hx
    refine ⟨_, rfl, ?_⟩
    have : (if b < a then b else a) = min a b := by split <;> omega
    rw [this]
    exact h
  · exact h.elim
theorem run_maxV {P : Program} {w : World} {S : Nat → Prop} {ts : Array TypeId} {ty : TypeId} {xs : List D} {vs : List Value} {K : D → Prop} (h : maxV xs K) (hx : valsAll w S xs vs) : ∃ u, (Builtin.max_ ts ty ⟨vs⟩).run P w = .ok u w ∧ K (.val u) := by
  unfold maxV at h
  split at h
  · rename_i k a k' b
    simp only [valsAll, D.is] at hx
    obtain ⟨_, _, rfl, rfl, _, _, rfl, rfl, rfl⟩ := hx
    refine ⟨_, rfl, ?_⟩
    have : (if b > a then b else a) = max a b := by split <;> omega
    rw [this]
    exact h
  · exact h.elim
def ncV (x : D) (K : D → Prop) : Prop :=
  match x with
  | .ep _ _ _ _ _ | .rp _ | .fn _ _ => K x
  | _ => False
theorem run_ncV {P : Program} {w : World} {S : Nat → Prop} {ρ : Operand → Value} {o : Oper} {y : Operand} (e : o.op = .nilCheck y) {x : D} {K : D → Prop} (h : ncV x K) (hx : D.is w S x (ρ y)) : (execOp ρ o).run P w = .ok (.value (ρ y)) w ∧ K x := by
  unfold ncV at h
  split at h
  · simp only [D.is] at hx; exact ⟨by simp only [execOp, e, hx]; rfl, h⟩
  · simp only [D.is] at hx; obtain ⟨b, o', hv, _⟩ := hx; exact ⟨by simp only [execOp, e, hv]; rfl, h⟩
  · simp only [D.is] at hx; obtain ⟨vs, hv, _⟩ := hx; exact ⟨by simp only [execOp, e, hv]; rfl, h⟩
  · exact h.elim
def exV (x : D) (i : Nat) (K : D → Prop) : Prop :=
  match x with
  | .tup ds => (match ds[i]? with
    | some d => K d
    | none => False)
  | _ => False
theorem run_exV {P : Program} {w : World} {S : Nat → Prop} {x : D} {v : Value} {i : Nat} {K : D → Prop} (h : exV x i K) (hx : D.is w S x v) : ∃ u d, (Instr.extract v i).run P w = .ok u w ∧ D.is w S d u ∧ K d := by
  unfold exV at h
  split at h
  · split at h
    · rename_i d hd
      simp only [D.is] at hx
      obtain ⟨vs, rfl, hx⟩ := hx
      obtain ⟨u, h1, h2⟩ := valsAll_get hx i d hd
      refine ⟨u, d, ?_, h2, h⟩
      unfold Instr.extract
      simp only [List.getElem?_toArray, h1]
      rfl
    · exact h.elim
  · exact h.elim
def azV (P : Program) (H : Heap) (t xt : TypeId) (s x : D) (K : D → Heap → Prop) : Prop :=
  match tyi P t, tyi P xt, x with
  | some ⟨.slice e, _, _, _⟩, some ⟨.int _, _, _, _⟩, .val (.int _ n) => (match tyi P e with
    | some ⟨_, sz, by_, some zs⟩ => zs.length = sz ∧ sz ≠ 0 ∧ by_ ≠ 0 ∧ zs.all Value.oneCell' = true ∧ (match s with
      | .val (.slice none 0 0) | .emp => 0 < n ∧ ((n * (by_ : Int) ≤ 140737488355328 ∧ ∀ b, H b = none → K (.os b 0 sz 0 n.toNat) (H.upd b (.row e 0 sz (List.replicate n.toNat (zs.map .val))))) ∨
          (n * (by_ : Int) ≤ 281474976710656 ∧ ∀ b c, H b = none → n.toNat ≤ c → K (.val (.slice (some ⟨b, 0, none⟩) n.toNat c)) (H.upd b (.row e 0 sz (List.replicate c (zs.map .val))))))
      | .os b o sz' k n' => sz' = sz ∧ 0 ≤ n ∧ (((n' + n.toNat) * by_ : Nat) : Int) ≤ 140737488355328 ∧ (match H b with
        | some (.row ty o' sz'' els0) => ty = e ∧ o' = o ∧ sz'' = sz ∧ k + n' ≤ els0.length ∧ ∀ b' o', (H.del b) b' = none → K (.os b' o' sz 0 (n' + n.toNat)) ((H.del b).upd b' (.row e o' sz ((els0.drop k).take n' ++ List.replicate n.toNat (zs.map .val))))
        | _ => False)
      | _ => False)
    | _ => False)
  | _, _, _ => False
theorem zeroCells_get {zs : List Value} {z : Array Value} (hz : z.toList = zs) (n j q : Nat) (hj : j < n) (hq : q < zs.length) : (Builtin.zeroCells z n)[j * zs.length + q]? = zs[q]? := by
  have hsz : z.size = zs.length := by rw [← hz, Array.length_toList]
  have hlt : j * zs.length + q < n * zs.length := mul_lt_cells hj hq
  unfold Builtin.zeroCells
  rw [hsz, Array.getElem?_map, Array.getElem?_range, if_pos hlt]
  simp only [Option.map_some]
  rw [Nat.add_comm, Nat.add_mul_mod_self_right, Nat.mod_eq_of_lt hq]
  have hq2 : q < z.size := by omega
  rw [← hz]
  simp [hq2]
theorem zero_rows {w : World} {S : Nat → Prop} {b sz k m : Nat} {e : TypeId} {fr : Nat × Nat} {zs : List Value} {z : Array Value} (hz : z.toList = zs) (hzl : zs.length = sz) (hone : zs.all Value.oneCell' = true) (hb : w.heap[b]? = some (Obj.cells (Builtin.zeroCells z m ++ Builtin.zeroCells z k) e fr)) :
    rowsAt w S b sz 0 (List.replicate (m + k) (zs.map .val)) := by
  have hzs : z.size = zs.length := by rw [← hz, Array.length_toList]
  refine rowsAt_of fun j el hj => ?_
  rw [List.getElem?_replicate] at hj
  split at hj
  · rename_i hjl
    injection hj with hj
    subst hj
    refine ⟨by simp [hzl], ?_⟩
    refine cellsAt_of (cellsAll_vals zs (fun v hv => (List.all_eq_true.1 hone) v hv)) fun q v hq => ?_
    have hqz : q < zs.length := (List.getElem?_eq_some_iff.1 hq).1
    have hm : ∀ x, (Builtin.zeroCells z x).size = x * zs.length := fun x => by simp only [Builtin.zeroCells, Array.size_map, Array.size_range, hzs]
    rw [cell_of_row _ _ _ _ _ _ hb, Nat.zero_add, ← hzl]
    by_cases hjm : j < m
    · have hlt : j * zs.length + q < (Builtin.zeroCells z m).size := by rw [hm]; exact mul_lt_cells hjm hqz
      rw [Array.getElem?_append_left hlt, zeroCells_get hz m j q hjm hqz]
      exact hq
    · have hge : (Builtin.zeroCells z m).size ≤ j * zs.length + q := by
        rw [hm]
        have : m * zs.length ≤ j * zs.length := Nat.mul_le_mul_right _ (by omega)
        omega
      rw [Array.getElem?_append_right hge, hm]
      have hs : j * zs.length + q - m * zs.length = (j - m) * zs.length + q := by
        rw [Nat.sub_mul]
        have : m * zs.length ≤ j * zs.length := Nat.mul_le_mul_right _ (by omega)
        omega
      rw [hs, zeroCells_get hz k (j - m) q (by omega) hqz]
      exact hq
  · cases hj
theorem flatRep_get (zs : List Value) : ∀ (m i : Nat), ((List.replicate m zs).flatten)[i]? = if i < m * zs.length then zs[i % zs.length]? else none
  | 0, i => by simp
  | m + 1, i => by
    rw [List.replicate_succ, List.flatten_cons]
    by_cases h : i < zs.length
    · rw [List.getElem?_append_left h, if_pos (by rw [Nat.succ_mul]; omega), Nat.mod_eq_of_lt h]
    · rw [List.getElem?_append_right (by omega), flatRep_get zs m (i - zs.length), Nat.succ_mul]
      have : (i - zs.length) % zs.length = i % zs.length := (Nat.mod_eq_sub_mod (by omega)).symm
      rw [this]
      by_cases h2 : i < m * zs.length + zs.length
      · rw [if_pos (by omega), if_pos h2]
      · rw [if_neg (by omega), if_neg h2]
theorem zeroCells_flat {zs : List Value} {z : Array Value} (hz : z.toList = zs) (m : Nat) : (Builtin.zeroCells z m).toList = (List.replicate m zs).flatten := by
  have hsz : z.size = zs.length := by rw [← hz, Array.length_toList]
  apply List.ext_getElem?
  intro i
  rw [flatRep_get, Array.getElem?_toList]
  unfold Builtin.zeroCells
  rw [hsz, Array.getElem?_map, Array.getElem?_range]
  split
  · rename_i h
    have hp : 0 < zs.length := by
      rcases Nat.eq_zero_or_pos zs.length with h0 | h0
      · rw [h0] at h; simp at h
      · exact h0
    have hq2 : i % z.size < z.size := Nat.mod_lt _ (by omega)
    simp only [Option.map_some]
    rw [← hz, Array.length_toList, Array.getElem?_toList, getElem!_pos z _ hq2, Array.getElem?_eq_getElem hq2]
  · rfl
theorem run_append_make {P : Program} {w : World} {t xt ty e : TypeId} {kx kn : IntKind} {E : Ti} {zs : List Value} (ht : P.underlying t = some (.slice e)) (hxt : P.underlying xt = some (.int kx))
    (hE : tyi P e = some E) (hz : E.zero = some zs) (hzl : zs.length = E.size) (A : Option Addr) (n c m : Nat) (old : List Value)
    (hold : ∀ W : World, W.heap = w.heap → (Builtin.firstCells E.size n (.slice A n c)).run P W = .ok ⟨old⟩ W) (hb0 : E.bytes ≠ 0) (hb : (n + m) * E.bytes ≤ 140737488355328) :
    (n + m ≤ c → ∀ w', (match A with | some a => storeCells (a.add (n * E.size)) (List.replicate m zs).flatten | none => pure () : Sem Unit).run P w = .ok () w' → (Builtin.append_ #[t, xt] ty #[.slice A n c, .int kn (m : Int)]).run P w = .ok (.slice A (n + m) c) w') ∧
    (c < n + m → ∃ cap rest, n + m ≤ cap ∧ (Builtin.append_ #[t, xt] ty #[.slice A n c, .int kn (m : Int)]).run P w = .ok (.slice (some ⟨w.heap.size, 0, none⟩) (n + m) cap) (w.drew.alloc (Obj.cells ⟨old ++ (List.replicate m zs).flatten ++ rest⟩ e)) ∧ rest.length = (cap - (n + m)) * zs.length) := by
  obtain ⟨i, b1, b2, b3, b4, b5⟩ := run_info hE w
  have binfo : ∀ W, (typeInfo e).run P W = .ok i W := fun W => by
    obtain ⟨i', c1, _, _, _, c5⟩ := run_info hE W
    rw [b5] at c5
    injection c5 with c5
    subst c5
    exact c1
  have hmb : m * E.bytes ≤ 140737488355328 := Nat.le_trans (Nat.mul_le_mul_right _ (by omega)) hb
  have hmle : n + m ≤ 140737488355328 := Nat.le_trans (Nat.le_mul_of_pos_right _ (Nat.pos_of_ne_zero hb0)) hb
  have hwr : IntKind.i64.wrap (m : Int) = (m : Int) := by rw [IntKind.wrap_i64]; omega
  have hn3 : ¬ ((m : Int) < 0) := by omega
  have hn4 : ¬ ((m : Int) * (i.bytes : Int) > 2 ^ 48) := by
    rw [← b3]
    have : ((m * E.bytes : Nat) : Int) ≤ 140737488355328 := by omega
    rw [Int.natCast_mul] at this
    omega
  have happ : ∀ W, (if m * E.size = 0 then pure #[] else do pure (Builtin.zeroCells (← zeroValue e).cells m) : Sem (Array Value)).run P W = .ok ⟨(List.replicate m zs).flatten⟩ W := fun W => by
    obtain ⟨z, hz1, hz2⟩ := run_zero hE hz W
    split
    · rename_i h0
      rw [Sem.run_pure]
      have : (List.replicate m zs).flatten = [] := List.eq_nil_of_length_eq_zero (by
        rw [List.length_flatten, List.map_replicate, List.sum_replicate_nat, hzl]
        exact h0)
      rw [this]
    · simp only [Sem.run_bind, hz1, Result.andThen, Sem.run_pure]
      congr 1
      apply Array.ext'
      exact zeroCells_flat hz2 m
  constructor
  · intro hle w' hst
    unfold Builtin.append_
    simp only [List.getElem?_toArray, List.getElem?_cons_zero, List.getElem?_cons_succ, Sem.run_bind, run_under ht, run_under hxt, Result.andThen, run_size hE, if_true, asInt, asIntOf, hwr, if_neg hn3, binfo, if_neg hn4, Int.toNat_natCast, Sem.run_pure, if_pos hle, Bool.not_true, Bool.false_eq_true, if_false, happ]
    cases A with
    | none =>
      simp only [Sem.run_pure] at hst ⊢
      injection hst with _ hst
      subst hst
      rfl
    | some a =>
      simp only at hst ⊢
      simp only [Sem.run_bind, hst, Result.andThen, Sem.run_pure]
  · intro hlt
    have hn0 : ¬ (n + m ≤ c) := by omega
    have hn1 : ¬ (((n + m : Nat) : Int) > IntKind.i64.max ∧ (True ∨ i.bytes = 0)) := by
      rintro ⟨h1, _⟩
      have : IntKind.i64.max = 9223372036854775807 := by decide
      omega
    have hfit := growslice_fits hlt hb
    have hn2 : ¬ (Builtin.nextslicecap (n + m) c * i.bytes > 2 ^ 48) := by rw [← b3]; omega
    obtain ⟨cap, hcap⟩ : ∃ cap, cap = (Question.appendCap (n + m) c e).cut (w.tape w.drawn (.appendCap (n + m) c e)) := ⟨_, rfl⟩
    have hge : n + m ≤ cap := by rw [hcap]; simp [Question.cut]
    have hchoose : (choose (.appendCap (n + m) c e)).run P w = .ok cap w.drew := by
      rw [hcap]
      simp only [choose, Sem.run, Question.forced]
      rfl
    have hask : ∀ k W, (askRoom k).run P W = .ok () W := fun k W => by
      unfold askRoom
      split <;> rfl
    obtain ⟨z, hz1, hz2⟩ := run_zero hE hz w.drew
    refine ⟨cap, (Builtin.zeroCells z.cells (cap - (n + m))).toList, hge, ?_, by simp [Builtin.zeroCells, ← hz2]⟩
    have earr : (⟨old⟩ : Array Value) ++ ⟨(List.replicate m zs).flatten⟩ ++ Builtin.zeroCells z.cells (cap - (n + m)) = ⟨old ++ (List.replicate m zs).flatten ++ (Builtin.zeroCells z.cells (cap - (n + m))).toList⟩ := Array.ext' (by simp)
    unfold Builtin.append_
    simp only [List.getElem?_toArray, List.getElem?_cons_zero, List.getElem?_cons_succ, Sem.run_bind, run_under ht, run_under hxt, Result.andThen, run_size hE, if_true, asInt, asIntOf, hwr, if_neg hn3, binfo, if_neg hn4, Int.toNat_natCast, Sem.run_pure, if_neg hn0, if_neg hn1, if_neg hn2, hchoose, hask, hold w.drew rfl, Bool.not_true, Bool.false_eq_true, if_false, happ, hz1, newRow, newObj, Sem.run]
    rw [earr]
    rfl
theorem run_azV {P : Program} {H : Heap} {w : World} (hH : HOk w H) {t xt ty : TypeId} {s x : D} {v u : Value} {K : D → Heap → Prop} (h : azV P H t xt s x K) (hs : D.is w H.others s v) (hx : D.is w H.others x u) :
    ∃ r d' w' H', (Builtin.append_ #[t, xt] ty #[v, u]).run P w = .ok r w' ∧ D.is w' H'.others d' r ∧ HOk w' H' ∧ Ev H w H' w' ∧ K d' H' := by
  unfold azV at h
  split at h
  · rename_i e _ _ _ kx _ _ _ kn n hT hX
    have ex := is_val hx
    subst ex
    split at h
    · rename_i dE sz by_ zs hE
      obtain ⟨hzl, hsz0, hb0, hone, h⟩ := h
      obtain ⟨d, i, a1, a2, a3⟩ := tyi_spec hT
      injection a3 with a3
      cases d <;> simp [tdOf] at a3
      subst a3
      obtain ⟨dx, ix, c1, c2, c3⟩ := tyi_spec hX
      injection c3 with c3
      cases dx <;> simp [tdOf] at c3
      rcases (show (∃ b o sz' k n', s = .os b o sz' k n') ∨ ¬ ∃ b o sz' k n', s = .os b o sz' k n' from Classical.em _) with ⟨b, o, sz', k, n', rfl⟩ | hnos
      · simp only at h
        obtain ⟨rfl, hn, hb, h⟩ := h
        obtain ⟨m, rfl⟩ : ∃ m : Nat, n = (m : Int) := Int.eq_ofNat_of_zero_le hn
        split at h
        · rename_i ty' o' sz'' els0 hHb
          obtain ⟨rfl, rfl, rfl, hle, h⟩ := h
          simp only [D.is] at hs
          obtain ⟨A, c, rfl, hnc, hA⟩ := hs
          rw [Int.toNat_natCast] at hb h
          have hln : (List.replicate m (zs.map D.val)).length = m := List.length_replicate
          have hfl : (List.replicate m (zs.map D.val)).flatten = ((List.replicate m zs).flatten).map .val := by
            rw [List.map_flatten, List.map_replicate]
          refine own_apd (els := List.replicate m (zs.map .val)) (us := (List.replicate m zs).flatten) hH (ty := ty') hHb hle hzl (by rw [hln]; exact h) hnc hA (fun e he => by rw [(List.mem_replicate.1 he).2, List.length_map, hzl]) ?_ (by rw [hln, List.length_flatten, List.map_replicate, List.sum_replicate_nat, hzl]) fun old hold => ?_
          · rw [hfl]
            refine cellsAll_vals _ fun v hv => ?_
            obtain ⟨l, hl, hv⟩ := List.mem_flatten.1 hv
            rw [(List.mem_replicate.1 hl).2] at hv
            exact (List.all_eq_true.1 hone) v hv
          · rw [hln]
            exact run_append_make (P := P) (w := w) (ty := ty) a1 c1 hE rfl hzl A n' c m old hold hb0 (Int.ofNat_le.1 hb)
        · exact h.elim
      obtain ⟨A, rfl, hn, hk⟩ : ∃ A, v = .slice A 0 0 ∧ 0 < n ∧ ((n * (by_ : Int) ≤ 140737488355328 ∧ ∀ b, H b = none → K (.os b 0 sz 0 n.toNat) (H.upd b (.row e 0 sz (List.replicate n.toNat (zs.map .val))))) ∨
          (n * (by_ : Int) ≤ 281474976710656 ∧ ∀ b c, H b = none → n.toNat ≤ c → K (.val (.slice (some ⟨b, 0, none⟩) n.toNat c)) (H.upd b (.row e 0 sz (List.replicate c (zs.map .val)))))) := by
        split at h
        · exact ⟨none, is_val hs, h⟩
        · simp only [D.is] at hs
          obtain ⟨A, rfl⟩ := hs
          exact ⟨A, rfl, h⟩
        · exact (hnos ⟨_, _, _, _, _, rfl⟩).elim
        · exact h.elim
      obtain ⟨m, rfl⟩ : ∃ m : Nat, n = (m : Int) := Int.eq_ofNat_of_zero_le (by omega)
      have hm : 0 < m := by omega
      have hmb : m * by_ ≤ 281474976710656 := by
        have : ((m * by_ : Nat) : Int) ≤ 281474976710656 := by
          rw [Int.natCast_mul]
          rcases hk with hk | hk
          · exact Int.le_trans hk.1 (by omega)
          · exact hk.1
        omega
      have hmle : m ≤ 281474976710656 := Nat.le_trans (Nat.le_mul_of_pos_right m (Nat.pos_of_ne_zero hb0)) hmb
      obtain ⟨ii, b1, b2, b3, b4, b5⟩ := run_info hE w
      simp only at b3
      have binfo : ∀ W, (typeInfo e).run P W = .ok ii W := fun W => by
        obtain ⟨i', d1, _, _, _, d5⟩ := run_info hE W
        rw [b5] at d5
        injection d5 with d5
        subst d5
        exact d1
      have hnext : Builtin.nextslicecap (0 + m) 0 = m := by
        unfold Builtin.nextslicecap
        rw [if_pos (by omega), Nat.zero_add]
      have hwr : IntKind.i64.wrap (m : Int) = (m : Int) := by rw [IntKind.wrap_i64]; omega
      have hn0 : ¬ (0 + m ≤ 0) := by omega
      have hn1 : ¬ (((0 + m : Nat) : Int) > IntKind.i64.max ∧ (True ∨ ii.bytes = 0)) := by
        rintro ⟨h1, _⟩
        have : IntKind.i64.max = 9223372036854775807 := by decide
        omega
      have hn2 : ¬ (Builtin.nextslicecap (0 + m) 0 * ii.bytes > 2 ^ 48) := by rw [hnext, ← b3]; omega
      have hn3 : ¬ ((m : Int) < 0) := by omega
      have hn4 : ¬ ((m : Int) * (ii.bytes : Int) > 2 ^ 48) := by
        rw [← b3]
        have : ((m * by_ : Nat) : Int) ≤ 281474976710656 := by omega
        rw [Int.natCast_mul] at this
        omega
      have hn5 : ¬ (m * sz = 0) := by
        intro h0
        rcases Nat.mul_eq_zero.1 h0 with h1 | h1 <;> omega
      obtain ⟨cap, hcap⟩ : ∃ cap, cap = (Question.appendCap (0 + m) 0 e).cut (w.tape w.drawn (.appendCap (0 + m) 0 e)) := ⟨_, rfl⟩
      have hge : 0 + m ≤ cap := by rw [hcap]; simp [Question.cut]
      have hchoose : (choose (.appendCap (0 + m) 0 e)).run P w = .ok cap w.drew := by
        rw [hcap]
        simp only [choose, Sem.run, Question.forced]
        rfl
      have hask : ∀ k W, (askRoom k).run P W = .ok () W := fun k W => by
        unfold askRoom
        split <;> rfl
      obtain ⟨z, hz1, hz2⟩ := run_zero hE rfl w.drew
      have hzs : z.cells.size = zs.length := by rw [← Array.length_toList, hz2]
      have hfc : ∀ W, (Builtin.firstCells sz 0 (.slice A 0 0)).run P W = .ok #[] W := fun W => by cases A <;> simp [Builtin.firstCells, loadCells, loadCellsFrom]
      have hrun : (Builtin.append_ #[t, xt] ty #[.slice A 0 0, .int kn (m : Int)]).run P w = .ok (.slice (some ⟨w.heap.size, 0, none⟩) (0 + m) cap) (w.drew.alloc (Obj.cells (Builtin.zeroCells z.cells m ++ Builtin.zeroCells z.cells (cap - (0 + m))) e)) := by
        unfold Builtin.append_
        simp only [List.getElem?_toArray, List.getElem?_cons_zero, List.getElem?_cons_succ, Sem.run_bind, run_under a1, run_under c1, Result.andThen, run_size hE, if_true, asInt, asIntOf, hwr, if_neg hn3, binfo, if_neg hn4, Int.toNat_natCast, Sem.run_pure, if_neg hn0, if_neg hn1, if_neg hn2, hchoose, hask, hfc, Bool.not_true, Bool.false_eq_true, if_false, if_neg hn5, hz1, newRow, newObj, Sem.run]
        rw [Array.empty_append]
        rfl
      have hcs : (Builtin.zeroCells z.cells m ++ Builtin.zeroCells z.cells (cap - (0 + m))).size = cap * sz := by
        simp only [Array.size_append, Builtin.zeroCells, Array.size_map, Array.size_range]
        rw [hzs, hzl, ← Nat.add_mul]
        congr 1
        omega
      have hrows : ∀ S, rowsAt (w.drew.alloc (Obj.cells (Builtin.zeroCells z.cells m ++ Builtin.zeroCells z.cells (cap - (0 + m))) e)) S w.heap.size sz 0 (List.replicate cap (zs.map .val)) := fun S => by
        have := zero_rows (S := S) (k := cap - (0 + m)) (m := m) hz2 hzl hone (heap_alloc_new w.drew (Obj.cells (Builtin.zeroCells z.cells m ++ Builtin.zeroCells z.cells (cap - (0 + m))) e))
        rwa [show m + (cap - (0 + m)) = cap by omega] at this
      rcases hk with ⟨_, hk⟩ | ⟨_, hk⟩
      · refine ⟨_, _, _, _, hrun, ?_, ?_, (ev_drew H w).trans (ev_alloc _ _ hH.drew), hk w.heap.size (fresh_none hH)⟩
        · simp only [D.is, Int.toNat_natCast]
          refine ⟨_, _, by rw [Nat.zero_add], by omega, .inr ⟨by simp, _, e, (0, 0), heap_alloc_new w.drew _, ?_⟩⟩
          rw [hcs, Nat.zero_add, Nat.zero_add]
          exact Nat.le_refl _
        · refine HOk.alloc hH.drew ⟨_, (0, 0), heap_alloc_new w.drew _, free0 _, ?_, ?_⟩
          · rw [hcs, List.length_replicate, Int.toNat_natCast, Nat.zero_add]
            exact Nat.mul_le_mul_right _ (by omega)
          · have h1 : ∀ S, rowsAt (w.drew.alloc (Obj.cells (Builtin.zeroCells z.cells m ++ Builtin.zeroCells z.cells (cap - (0 + m))) e)) S w.heap.size sz 0 (List.replicate m (zs.map .val)) := fun S => by
              have := rowsAt_take (hrows S) m
              rwa [List.take_replicate, Nat.min_eq_left (by omega)] at this
            exact h1 _
      · refine ⟨_, _, _, _, hrun, ?_, ?_, (ev_drew H w).trans (ev_alloc _ _ hH.drew), hk w.heap.size cap (fresh_none hH) (by omega)⟩
        · simp only [D.is, Int.toNat_natCast, Nat.zero_add]
        · refine HOk.alloc hH.drew ⟨_, (0, 0), heap_alloc_new w.drew _, free0 _, ?_, ?_⟩
          · rw [hcs, List.length_replicate, Nat.zero_add]
            exact Nat.le_refl _
          · exact hrows _
    · exact h.elim
  · exact h.elim
def cpV (x : D) (K : D → Prop) : Prop :=
  match x with
  | .val (.slice _ _ c) => K (.val (.int .i64 (c : Int)))
  | .emp => K (.val (.int .i64 0))
  | _ => False
def St.evs (s : St) (xs : Array Operand) : List D := xs.toList.map s.ev
def St.parts (s : St) (ps : Array (Nat × Operand)) : List (Nat × D) := ps.toList.map fun p => (p.1, s.ev p.2)
theorem Match.evs_ {cx : Cx} {s : St} {a : Act} {w : World} (m : Match cx s a w) (xs : Array Operand) : valsAll w s.H.others (s.evs xs) (xs.map a.eval).toList := by
  unfold St.evs
  rw [Array.toList_map]
  induction xs.toList with
  | nil => simp [valsAll]
  | cons x l ih => simp only [List.map_cons, valsAll]; exact ⟨_, _, rfl, m.ev_ x, ih⟩
theorem Match.parts_ {cx : Cx} {s : St} {a : Act} {w : World} (m : Match cx s a w) (ps : Array (Nat × Operand)) : partsIs w s.H.others (s.parts ps) (ps.map fun (i, x) => (i, a.eval x)).toList := by
  unfold St.parts
  rw [Array.toList_map]
  induction ps.toList with
  | nil => simp [partsIs]
  | cons p l ih =>
    obtain ⟨i, x⟩ := p
    simp only [List.map_cons, partsIs]
    exact ⟨_, _, rfl, m.ev_ x, ih⟩
theorem Match.opt_ {cx : Cx} {s : St} {a : Act} {w : World} (m : Match cx s a w) (x : Option Operand) : optIs w s.H.others (x.map s.ev) (x.map a.eval) := by
  cases x with
  | none => trivial
  | some x => exact m.ev_ x
def biV (P : Program) (s : St) (b : Builtin) (args : List D) (ts : Array TypeId) (K : D → Heap → Prop) : Prop :=
  match b, args with
  | .append, [x, y] => (match ts.toList with
    | [t, xt] => (match tyi P xt with
      | some ⟨.int _, _, _, _⟩ => azV P s.H t xt x y K
      | _ => apV P s.H t xt x y K)
    | _ => False)
  | .cap, [x] => (match ts.toList with
    | [t] => (match tyi P t with
      | some ⟨.slice _, _, _, _⟩ => cpV x fun d => K d s.H
      | _ => False)
    | _ => False)
  | .len, [x] => (match ts.toList with
    | [t] => lenV P s.H t x fun d => K d s.H
    | _ => False)
  | .min, xs => minV xs fun d => K d s.H
  | .max, xs => maxV xs fun d => K d s.H
  | .clear, [x] => (match ts.toList with
    | [t] => clrV P s.H t x K
    | _ => False)
  | .copy, [x, y] => (match ts.toList with
    | [t, _] => cpyV P s.H t x y K
    | _ => False)
  | _, _ => False
theorem run_biV {P : Program} {s : St} {w : World} (hH : HOk w s.H) {b : Builtin} {args : List D} {vs : List Value} {ts : Array TypeId} {ty : TypeId} {cs : Array Bool} {K : D → Heap → Prop} (h : biV P s b args ts K) (hx : valsAll w s.H.others args vs) :
    ∃ r d' w' H', (builtin b ts ty cs ⟨vs⟩).run P w = .ok (.value r) w' ∧ D.is w' H'.others d' r ∧ HOk w' H' ∧ Ev s.H w H' w' ∧ K d' H' := by
  have lift : ∀ {sm : Sem Value} {r : Value} {w' : World}, sm.run P w = .ok r w' → (do pure (Next.value (← sm)) : Sem Next).run P w = .ok (.value r) w' := fun h => by
    simp only [Sem.run_bind, h, Result.andThen, Sem.run_pure]
  unfold biV at h
  split at h
  · split at h
    · rename_i t xt hts
      simp only [valsAll] at hx
      obtain ⟨v, _, rfl, hv, u, _, rfl, hu, rfl⟩ := hx
      have e : ts = #[t, xt] := Array.ext' (by simpa using hts)
      subst e
      split at h
      · obtain ⟨r, d', w', H', h1, h2, h3, h4, h5⟩ := run_azV (ty := ty) hH h hv hu
        exact ⟨r, d', w', H', lift h1, h2, h3, h4, h5⟩
      · obtain ⟨r, d', w', H', h1, h2, h3, h4, h5⟩ := run_apV (ty := ty) hH h hv hu
        exact ⟨r, d', w', H', lift h1, h2, h3, h4, h5⟩
    · exact h.elim
  · split at h
    · rename_i t hts
      split at h
      · rename_i hT
        obtain ⟨dd, ii, a1, a2, a3⟩ := tyi_spec hT
        injection a3 with a3
        cases dd <;> simp [tdOf] at a3
        simp only [valsAll] at hx
        obtain ⟨v, _, rfl, hv, rfl⟩ := hx
        have e : ts = #[t] := Array.ext' (by simpa using hts)
        subst e
        unfold cpV at h
        split at h
        · have e := is_val hv
          subst e
          exact ⟨_, _, w, s.H, lift (by simp [Builtin.cap_, run_under a1, goInt]), is_mk _, hH, Ev.refl _ _, h⟩
        · simp only [D.is] at hv
          obtain ⟨A, rfl⟩ := hv
          exact ⟨.int .i64 0, _, w, s.H, lift (by simp [Builtin.cap_, run_under a1, goInt]), is_mk _, hH, Ev.refl _ _, h⟩
        · exact h.elim
      · exact h.elim
    · exact h.elim
  · split at h
    · rename_i t hts
      simp only [valsAll] at hx
      obtain ⟨v, _, rfl, hv, rfl⟩ := hx
      have e : ts = #[t] := Array.ext' (by simpa using hts)
      subst e
      obtain ⟨u, h1, h2⟩ := run_lenV (ty := ty) hH h hv
      exact ⟨u, _, w, s.H, lift h1, is_mk _, hH, Ev.refl _ _, h2⟩
    · exact h.elim
  · obtain ⟨u, h1, h2⟩ := run_minV (P := P) (ts := ts) (ty := ty) h hx
    exact ⟨u, _, w, s.H, lift h1, is_mk _, hH, Ev.refl _ _, h2⟩
  · obtain ⟨u, h1, h2⟩ := run_maxV (P := P) (ts := ts) (ty := ty) h hx
    exact ⟨u, _, w, s.H, lift h1, is_mk _, hH, Ev.refl _ _, h2⟩
  · split at h
    · rename_i t hts
      simp only [valsAll] at hx
      obtain ⟨v, _, rfl, hv, rfl⟩ := hx
      have e : ts = #[t] := Array.ext' (by simpa using hts)
      subst e
      obtain ⟨r, d', w', H', h1, h2, h3, h4, h5⟩ := run_clrV (ty := ty) hH h hv
      exact ⟨r, d', w', H', lift h1, h2, h3, h4, h5⟩
    · exact h.elim
  · split at h
    · rename_i t xt hts
      simp only [valsAll] at hx
      obtain ⟨v, _, rfl, hv, u, _, rfl, hu, rfl⟩ := hx
      have e : ts = #[t, xt] := Array.ext' (by simpa using hts)
      subst e
      obtain ⟨r, d', w', H', h1, h2, h3, h4, h5⟩ := run_cpyV (xt := xt) (ty := ty) hH h hv hu
      exact ⟨r, d', w', H', lift h1, h2, h3, h4, h5⟩
    · exact h.elim
  · exact h.elim
def clV (P : Program) (s : St) (c : Call) (K : D → Heap → Prop) (other : Prop) : Prop :=
  match c.callee with
  | .value f => (match s.ev f with
    | .fn g caps => Does P g (s.evs c.args ++ caps) s.H K
    | _ => other)
  | .builtin b => biV P s b (s.evs c.args) c.argTypes K
  | _ => other
theorem valsAll_append {w : World} {S : Nat → Prop} : ∀ {cs ds : List D} {vs us : List Value}, valsAll w S cs vs → valsAll w S ds us → valsAll w S (cs ++ ds) (vs ++ us)
  | [], ds, vs, us, h, h' => by simp only [valsAll] at h; subst h; exact h'
  | d :: cs, ds, vs, us, h, h' => by
    simp only [valsAll] at h
    obtain ⟨u, us', rfl, h2, h⟩ := h
    simp only [List.cons_append, valsAll]
    exact ⟨u, _, rfl, h2, valsAll_append h h'⟩
def nilU (P : Program) (op : BinOp) (t : TypeId) (n : Nat) (K : D → Prop) : Prop := match tyi P t with
  | some ⟨.slice _, _, _, _⟩ => ∀ b, (n ≠ 0 → b = false) → nilOp op b K
  | _ => False
def bnU (P : Program) (op : BinOp) (t : TypeId) (x y : D) (K : D → Prop) : Prop :=
  match x, y with
  | .seq _ els, .val (.slice none _ _) => nilU P op t els.length K
  | .os _ _ _ _ n, .val (.slice none _ _) => nilU P op t n K
  | .emp, .val (.slice none _ _) => nilU P op t 0 K
  | x, y => binV P op t x y K
theorem nilU_of {P : Program} {op : BinOp} {t : TypeId} {n : Nat} {x : D} {K : D → Prop} (hn : ∀ b, x.nilSl = some b → n ≠ 0 ∧ b = false) (h : bNilS P op t x K) : nilU P op t n K := by
  unfold bNilS at h
  unfold nilU
  split at h
  · rename_i hT hb
    rw [hT]
    intro b hb2
    obtain ⟨h1, rfl⟩ := hn _ hb
    rw [hb2 h1]
    exact h
  · exact h.elim
theorem bnU_of {P : Program} {op : BinOp} {t : TypeId} {x y : D} {K : D → Prop} (h : binV P op t x y K) : bnU P op t x y K := by
  unfold bnU
  split
  · refine nilU_of (x := .seq _ _) (fun b hb => ?_) h
    simp only [D.nilSl] at hb
    split at hb
    · cases hb
    · rename_i hne; injection hb with hb; exact ⟨hne, hb.symm⟩
  · refine nilU_of (x := .os _ _ _ _ _) (fun b hb => ?_) h
    simp only [D.nilSl] at hb
    split at hb
    · cases hb
    · rename_i hne; injection hb with hb; exact ⟨hne, hb.symm⟩
  · exact nilU_of (x := .emp) (fun b hb => by simp [D.nilSl] at hb) h
  · exact h
theorem run_nilU {P : Program} {w : World} {op : BinOp} {t : TypeId} {p q : Operand} {k m c1 n c : Nat} {A : Option Addr} {K : D → Prop} (h : nilU P op t k K) (hA : k ≠ 0 → A.isNone = false) :
    ∃ u, (do eqGuard op t p q (.slice A m c1) (.slice none n c); binOp op t (.slice A m c1) (.slice none n c)).run P w = .ok u w ∧ K (.val u) := by
  unfold nilU at h
  split at h
  · rename_i hT
    obtain ⟨d, i, h1, h2, h3⟩ := tyi_spec hT
    injection h3 with h3
    cases d <;> simp [tdOf] at h3
    subst h3
    have hg : (eqGuard op t p q (.slice A m c1) (.slice none n c)).run P w = .ok () w := eqGuard_ok (.inl (by simp))
    simp only [Sem.run_bind, hg, Result.andThen]
    exact run_nilOp (h A.isNone hA) (eqIn_slice 9999 h1 A m c1 n c) rfl rfl
  · exact h.elim
theorem run_bnU {P : Program} {w : World} {S : Nat → Prop} {op : BinOp} {t : TypeId} {x y : D} {a b : Value} {p q : Operand} {K : D → Prop} (h : bnU P op t x y K) (hx : D.is w S x a) (hy : D.is w S y b) :
    ∃ u, (do eqGuard op t p q a b; binOp op t a b).run P w = .ok u w ∧ K (.val u) := by
  unfold bnU at h
  split at h
  · have e2 := is_val hy
    subst e2
    simp only [D.is] at hx
    obtain ⟨A, c, rfl, h1, h2⟩ := hx
    refine run_nilU h fun hne => ?_
    rcases h2 with h2 | ⟨_, _, rfl, _⟩
    · subst h2; exact absurd rfl hne
    · rfl
  · have e2 := is_val hy
    subst e2
    simp only [D.is] at hx
    obtain ⟨A, c, rfl, h1, h2⟩ := hx
    refine run_nilU h fun hne => ?_
    rcases h2 with h2 | ⟨rfl, _⟩
    · omega
    · rfl
  · have e2 := is_val hy
    subst e2
    simp only [D.is] at hx
    obtain ⟨A, rfl⟩ := hx
    exact run_nilU h fun hne => absurd rfl hne
  · exact run_binV h hx hy
def cwV (P : Program) (H : Heap) (a b : TypeId) (x : D) (K : D → Prop) : Prop :=
  match x with
  | .os blk _ _ _ n => (match tyi P a, tyi P b with
    | some ⟨.slice e, _, _, _⟩, some ⟨.slice _, _, _, _⟩ => a = b ∧ n ≠ 0 ∧ (match tyi P e with
      | some ⟨.int .u8, _, _, _⟩ => (match H blk with
        | some (.row _ _ _ _) => K x
        | _ => False)
      | _ => False)
    | _, _ => cvV P H a b x K)
  | _ => cvV P H a b x K
theorem cw_of_cv {P : Program} {H : Heap} {a b : TypeId} {x : D} {K : D → Prop} (h : cvV P H a b x K) : cwV P H a b x K := by
  unfold cwV
  split
  · split
    · rename_i hA hB
      unfold cvV at h
      rw [hA, hB] at h
      exact h.elim
    · exact h
  · exact h
theorem freeze_block {w : World} {b k : Nat} {cs : Array Value} {t : TypeId} {fr : Nat × Nat} (hb : w.heap[b]? = some (Obj.cells cs t fr)) : (w.freeze ⟨b, k, none⟩ 1).heap[b]? = some (Obj.cells cs t (if fr.1 == fr.2 then (k, k + 1) else (min fr.1 k, max fr.2 (k + 1)))) := by
  unfold World.freeze
  rw [if_neg (by decide)]
  simp [Array.getElem?_modify, hb]
theorem freeze_other {w : World} {b c k : Nat} (h : c ≠ b) : (w.freeze ⟨b, k, none⟩ 1).heap[c]? = w.heap[c]? := by
  unfold World.freeze
  rw [if_neg (by decide)]
  simp [Array.getElem?_modify, Ne.symm h]
theorem freeze_ok {H : Heap} {w : World} (hH : HOk w H) {b : Nat} {t : TypeId} {o sz : Nat} {els : List (List D)} {cs : Array Value} {fr : Nat × Nat} {t' : TypeId} (hb : H b = some (.row t o sz els)) (hw : w.heap[b]? = some (Obj.cells cs t' fr)) :
    HOk (w.freeze ⟨b, cs.size, none⟩ 1) H ∧ Ev H w H (w.freeze ⟨b, cs.size, none⟩ 1) := by
  obtain ⟨cs0, fr0, h1, h2, h3, h4⟩ := hH _ _ hb
  rw [hw] at h1
  injection h1 with h1
  injection h1 with e1 e2 e3
  subst e1 e2 e3
  have hself : H.upd b (.row t' o sz els) = H := funext fun c => by
    by_cases e : c = b
    · subst e; rw [Heap.upd_same, hb]
    · rw [Heap.upd_ne e]
  have hnew := freeze_block (k := cs.size) hw
  have hsz : (w.freeze ⟨b, cs.size, none⟩ 1).heap.size = w.heap.size := by unfold World.freeze; rw [if_neg (by decide)]; simp
  have hev : Ev H w (H.upd b (.row t' o sz els)) (w.freeze ⟨b, cs.size, none⟩ 1) := ev_block (by rw [hb]; simp) (by unfold World.freeze; rw [if_neg (by decide)]) (by unfold World.freeze; rw [if_neg (by decide)]) (by unfold World.freeze; rw [if_neg (by decide)]) hsz (fun c hc => freeze_other hc) fun cs2 t2 fr2 h => by
    rw [hw] at h
    injection h with h
    injection h with e1 e2 e3
    subst e1 e2 e3
    exact ⟨_, _, hnew, rfl⟩
  have hok := hok_block hH hev (fun c hc => freeze_other hc) ⟨cs, _, hnew, by
    unfold Free at h2 ⊢
    by_cases e : fr.1 = fr.2
    · rw [if_pos (by simpa using e)]; exact .inr (Nat.le_refl _)
    · rw [if_neg (by simpa using e)]
      refine .inr ?_
      have := h2.resolve_left e
      simp only
      omega, h3, by
    have hcell : ∀ (i : Nat), (w.freeze ⟨b, cs.size, none⟩ 1).cell? ⟨b, i, none⟩ = w.cell? ⟨b, i, none⟩ := fun i => by
      rw [cell_of_row _ _ _ _ _ _ hnew, cell_of_row _ _ _ _ _ _ hw]
    refine rowsAt_of fun i el hi => ?_
    obtain ⟨g1, g2⟩ := rowsAt_get h4 i el hi
    refine ⟨g1, ?_⟩
    obtain ⟨vs, g3, g4⟩ := cellsAt_vals g2
    refine cellsAt_of (cellsAll_keep hev.kept _ g3) fun q v hq => ?_
    rw [hcell]
    exact g4 q v hq⟩
  rw [hself] at hev hok
  exact ⟨hok, hev⟩
theorem run_cwV {P : Program} {H : Heap} {w : World} (hH : HOk w H) {src dst : TypeId} {x : D} {v : Value} {K : D → Prop} (h : cwV P H src dst x K) (hx : D.is w H.others x v) : ∃ u d w', (convert src dst v).run P w = .ok u w' ∧ D.is w' H.others d u ∧ HOk w' H ∧ Ev H w H w' ∧ K d := by
  have old : cvV P H src dst x K → ∃ u d w', (convert src dst v).run P w = .ok u w' ∧ D.is w' H.others d u ∧ HOk w' H ∧ Ev H w H w' ∧ K d := fun h => by
    obtain ⟨u, h1, h2⟩ := run_cvV hH h hx
    exact ⟨u, _, w, h1, is_mk _, hH, Ev.refl _ _, h2⟩
  unfold cwV at h
  split at h
  · rename_i blk o sz k n
    split at h
    · rename_i e _ _ _ _ _ _ _ hA hB
      obtain ⟨rfl, hn, h⟩ := h
      split at h
      · rename_i hE
        split at h
        · rename_i ty o' sz' els hb
          obtain ⟨dA, iA, a1, a2, a3⟩ := tyi_spec hA
          obtain ⟨dE, iE, c1, c2, c3⟩ := tyi_spec hE
          injection a3 with a3
          cases dA <;> simp [tdOf] at a3
          subst a3
          injection c3 with c3
          cases dE <;> simp [tdOf] at c3
          subst c3
          have hx0 := hx
          simp only [D.is] at hx
          obtain ⟨A, c, rfl, hc, hA2⟩ := hx
          rcases hA2 with hA2 | ⟨rfl, cs, t, fr, hw, hle⟩
          · omega
          · obtain ⟨h1, h2⟩ := freeze_ok hH hb hw
            refine ⟨_, .os blk o sz k n, _, ?_, D.is_keep h2.kept _ hx0, h1, h2, h⟩
            have hsh : w.shape? blk = some (t, cs.size) := by unfold World.shape?; rw [hw]
            simp [convert, run_under a1, run_under c1, markStringish, shape, freeze, Sem.run, Result.andThen, hsh]
        · exact h.elim
      · exact h.elim
    · exact old h
  · exact old h
def selV (b : Bool) (A B : Prop) : Prop := if b = true then A else B
theorem selV_eq (b : Bool) (A B : Prop) : selV b A B = if b = true then A else B := rfl
theorem ite_and (c : Prop) [Decidable c] (A B : Prop) : (if c then A else B) = ((c → A) ∧ (¬c → B)) := by
  by_cases h : c <;> simp [h]
theorem selV_iff {b : Bool} {A B : Prop} : selV b A B ↔ (b = true → A) ∧ (b = false → B) := by cases b <;> simp [selV]
theorem selW_iff {b want : Bool} {A B : Prop} : selV (b == want) A B ↔ (b = want → A) ∧ (b = !want → B) := by cases b <;> cases want <;> simp [selV]
theorem selV_t {b : Bool} {A B : Prop} (h : selV b A B) : b = true → A := fun e => by subst e; simpa [selV] using h
theorem selV_f {b : Bool} {A B : Prop} (h : selV b A B) : b = false → B := fun e => by subst e; simpa [selV] using h
def stepOp (cx : Cx) (o : Oper) (s : St) (K : St → Prop) : Prop :=
  match o.op with
  | .move x | .assign x => K (s.put o.dst (s.ev x))
  | .pick c x y => (match s.ev c with
    | .val (.bool b) => selV b (K (s.put o.dst (s.ev x))) (K (s.put o.dst (s.ev y)))
    | _ => False)
  | .alloc t => alV cx.P s.H t fun d H => K ((s.withH H).put o.dst d)
  | .box t x => bxV s.H t (s.ev x) fun d H => K ((s.withH H).put o.dst d)
  | .build t ps => bdV cx.P t (s.parts ps) fun d => K (s.put o.dst d)
  | .buildSlice t n ps => bsV cx.P s.H t n (s.parts ps) fun d H => K ((s.withH H).put o.dst d)
  | .load t x => ldV cx.P s.H t (s.ev x) fun d => K (s.put o.dst d)
  | .store t x y => stV cx.P s.H t (s.ev x) (s.ev y) fun H => K ((s.withH H).put o.dst (.val undef))
  | .nilCheck x => ncV (s.ev x) fun d => K (s.put o.dst d)
  | .binOp op t x y _ => bnU cx.P op t (s.ev x) (s.ev y) fun d => K (s.put o.dst d)
  | .unOp op _ x => unV op (s.ev x) fun d => K (s.put o.dst d)
  | .convert a b x => cwV cx.P s.H a b (s.ev x) fun d => K (s.put o.dst d)
  | .makeFunc (.func f) first caps => first.toList = [] ∧ K (s.put o.dst (.fn f (s.evs caps)))
  | .makeSlice t n c => mkV cx.P s.H t (s.ev n) (s.ev c) fun d H => K ((s.withH H).put o.dst d)
  | .slice t x lo hi mx => slV cx.P s.H t (s.ev x) (lo.map s.ev) (hi.map s.ev) (mx.map s.ev) fun d => K (s.put o.dst d)
  | .fieldAddr t x f => faV cx.P t (s.ev x) f fun d => K (s.put o.dst d)
  | .field t x f => fieldV cx.P t (s.ev x) f fun d => K (s.put o.dst d)
  | .indexAddr t x i => iaV cx.P s.H t (s.ev x) (s.ev i) fun d => K (s.put o.dst d)
  | .index t x i => ixV cx.P t (s.ev x) (s.ev i) fun d => K (s.put o.dst d)
  | .extract x i => exV (s.ev x) i fun d => K (s.put o.dst d)
  | .call c => clV cx.P s c (fun d H => K ((s.withH H).put o.dst d)) (WO cx o K s)
  | .makeMap _ none => mmV s.H fun d H => K ((s.withH H).put o.dst d)
  | .lookup t x i ok => lkV cx.P s.H t (s.ev x) (s.ev i) ok fun d => K (s.put o.dst d)
  | .mapUpdate t x i y => muV cx.P s.H t (s.ev x) (s.ev i) (s.ev y) fun H => K ((s.withH H).put o.dst (.val undef))
  | .insert t x i y => muV cx.P s.H t (s.ev x) (s.ev i) (s.ev y) fun H => K ((s.withH H).put o.dst (.val undef))
  | _ => WO cx o K s
theorem step_sound {cx : Cx} {o : Oper} {s : St} {K : St → Prop} (hd : okd cx.n o.dst) (h : stepOp cx o s K) : WO cx o K s := by
  have lift : ∀ {P : Program} {w : World} {sm : Sem Value} {r : Value} {w' : World}, sm.run P w = .ok r w' → (do pure (Next.value (← sm)) : Sem Next).run P w = .ok (.value r) w' := fun h => by
    simp only [Sem.run_bind, h, Result.andThen, Sem.run_pure]
  unfold stepOp at h
  split at h
  case h_1 x e => exact WO_pure (by simp [e]) hd fun a w m => ⟨_, _, by simp [execOp, e], m.ev_ x, h⟩
  case h_2 x e => exact WO_pure (by simp [e]) hd fun a w m => ⟨_, _, by simp [execOp, e], m.ev_ x, h⟩
  case h_3 c x y e =>
    refine WO_pure (by simp [e]) hd fun a w m => ?_
    split at h
    · rename_i b hb
      have hc := m.ev_ c
      rw [hb] at hc
      have hc' := is_val hc
      cases b with
      | true => exact ⟨_, _, by simp [execOp, e, hc', asBool], m.ev_ x, selV_t h rfl⟩
      | false => exact ⟨_, _, by simp [execOp, e, hc', asBool], m.ev_ y, selV_f h rfl⟩
    · exact h.elim
  case h_4 t e =>
    refine WO_val (by simp [e]) hd fun a w m => ?_
    obtain ⟨r, d, w', H', h1, h2, h3, h4, h5⟩ := run_alV m.H h
    exact ⟨r, w', d, H', by simp only [execOp, e]; exact lift h1, h2, h3, h4, h5⟩
  case h_5 t x e =>
    refine WO_val (by simp [e]) hd fun a w m => ?_
    obtain ⟨r, d, w', H', h1, h2, h3, h4, h5⟩ := run_bxV (P := cx.P) m.H h (m.ev_ x)
    exact ⟨r, w', d, H', by simp only [execOp, e]; exact lift h1, h2, h3, h4, h5⟩
  case h_6 t ps e =>
    refine WO_pure (by simp [e]) hd fun a w m => ?_
    obtain ⟨r, d, h1, h2, h3⟩ := run_bdV h (m.parts_ ps)
    exact ⟨r, d, by simp only [execOp, e]; exact lift h1, h2, h3⟩
  case h_7 t n ps e =>
    refine WO_val (by simp [e]) hd fun a w m => ?_
    obtain ⟨r, d, w', H', h1, h2, h3, h4, h5⟩ := run_bsV m.H h (m.parts_ ps)
    exact ⟨r, w', d, H', by simp only [execOp, e]; exact lift h1, h2, h3, h4, h5⟩
  case h_8 t x e =>
    refine WO_pure (by simp [e]) hd fun a w m => ?_
    obtain ⟨r, d, h1, h2, h3⟩ := run_ldV m.H h (m.ev_ x)
    exact ⟨r, d, by simp only [execOp, e]; exact lift h1, h2, h3⟩
  case h_9 t x y e =>
    refine WO_skip (by simp [e]) hd fun a w m => ?_
    obtain ⟨w', H', h1, h2, h3, h4⟩ := run_stV m.H h (m.ev_ x) (m.ev_ y)
    exact ⟨w', H', by simp only [execOp, e, Sem.run_bind, h1, Result.andThen, Sem.run_pure], h2, h3, h4⟩
  case h_10 x e =>
    refine WO_pure (by simp [e]) hd fun a w m => ?_
    obtain ⟨h1, h2⟩ := run_ncV (P := cx.P) e h (m.ev_ x)
    exact ⟨_, _, h1, m.ev_ x, h2⟩
  case h_11 op t x y _ e =>
    refine WO_pure (by simp [e]) hd fun a w m => ?_
    obtain ⟨r, h1, h2⟩ := run_bnU (p := x) (q := y) h (m.ev_ x) (m.ev_ y)
    exact ⟨r, _, by simp only [execOp, e]; exact lift h1, is_mk _, h2⟩
  case h_12 op _ x e =>
    refine WO_pure (by simp [e]) hd fun a w m => ?_
    obtain ⟨r, h1, h2⟩ := run_unV (P := cx.P) h (m.ev_ x)
    exact ⟨r, _, by simp only [execOp, e]; exact lift h1, is_mk _, h2⟩
  case h_13 p q x e =>
    refine WO_val (by simp [e]) hd fun a w m => ?_
    obtain ⟨r, d, w', h1, h2, h3, h4, h5⟩ := run_cwV m.H h (m.ev_ x)
    exact ⟨r, w', d, s.H, by simp only [execOp, e]; exact lift h1, h2, h3, h4, h5⟩
  case h_14 f first caps e =>
    refine WO_pure (by simp [e]) hd fun a w m => ?_
    obtain ⟨h0, h⟩ := h
    have hf : first = #[] := Array.ext' (by simpa using h0)
    subst hf
    refine ⟨.func (.func f) #[] (caps.map a.eval), _, by simp [execOp, e, Instr.makeFunc], ?_, h⟩
    simp only [D.is]
    exact ⟨(caps.map a.eval).toList, rfl, m.evs_ caps⟩
  case h_15 t n c e =>
    refine WO_val (by simp [e]) hd fun a w m => ?_
    obtain ⟨r, d, w', H', h1, h2, h3, h4, h5⟩ := run_mkV m.H h (m.ev_ n) (m.ev_ c)
    exact ⟨r, w', d, H', by simp only [execOp, e]; exact lift h1, h2, h3, h4, h5⟩
  case h_16 t x lo hi mx e =>
    refine WO_pure (by simp [e]) hd fun a w m => ?_
    obtain ⟨r, d, h1, h2, h3⟩ := run_slV h (m.ev_ x) (m.opt_ lo) (m.opt_ hi) (m.opt_ mx)
    exact ⟨r, d, by simp only [execOp, e]; exact lift h1, h2, h3⟩
  case h_17 t x f e =>
    refine WO_pure (by simp [e]) hd fun a w m => ?_
    obtain ⟨r, d, h1, h2, h3⟩ := run_faV h (m.ev_ x)
    exact ⟨r, d, by simp only [execOp, e]; exact lift h1, h2, h3⟩
  case h_18 t x f e =>
    refine WO_pure (by simp [e]) hd fun a w m => ?_
    obtain ⟨r, d, h1, h2, h3⟩ := run_fieldV h (m.ev_ x)
    exact ⟨r, d, by simp only [execOp, e]; exact lift h1, h2, h3⟩
  case h_19 t x i e =>
    refine WO_pure (by simp [e]) hd fun a w m => ?_
    obtain ⟨r, d, h1, h2, h3⟩ := run_iaV h (m.ev_ x) (m.ev_ i)
    exact ⟨r, d, by simp only [execOp, e]; exact lift h1, h2, h3⟩
  case h_20 t x i e =>
    refine WO_pure (by simp [e]) hd fun a w m => ?_
    obtain ⟨r, d, h1, h2, h3⟩ := run_ixV h (m.ev_ x) (m.ev_ i)
    exact ⟨r, d, by simp only [execOp, e]; exact lift h1, h2, h3⟩
  case h_21 x i e =>
    refine WO_pure (by simp [e]) hd fun a w m => ?_
    obtain ⟨r, d, h1, h2, h3⟩ := run_exV (P := cx.P) h (m.ev_ x)
    exact ⟨r, d, by simp only [execOp, e]; exact lift h1, h2, h3⟩
  case h_22 c e =>
    unfold clV at h
    split at h
    · rename_i f hcal
      split at h
      · rename_i g caps hg
        intro a w m
        refine ⟨about_FR, ?_⟩
        rw [sem_FR (by simp [e])]
        have hf := m.ev_ f
        rw [hg] at hf
        simp only [D.is] at hf
        obtain ⟨vs, hf, hcaps⟩ := hf
        have hrun : (execOp a.eval o).run cx.P w = .ok (.enter g (c.args.map a.eval ++ ⟨vs⟩)) w := by
          simp only [execOp, e, resolve, hcal, hf, Deferred.ofValue, Sem.run_bind, Sem.run_pure, Result.andThen, invoke]
          rw [Array.empty_append]
          exact h.1 _ _
        rw [hrun, Oper.uponIn_enter]
        refine ⟨fun hd0 => (by cases hd0), ?_⟩
        have hargs := valsAll_append (m.evs_ c.args) hcaps
        have hc := h.2 w _ hargs m.H m.gok
        have hcall := callsIn_FR (ro := cx.ro) (n := 9 - 1) hc
        rw [show (c.args.map a.eval ++ (⟨vs⟩ : Array Value)) = ((c.args.map a.eval).toList ++ vs).toArray from Array.ext' (by simp)]
        refine hcall.mono fun e' w' ⟨v, d, H', he, h1, h2, h3, h4⟩ => ?_
        subst he
        exact ⟨_, (m.go h3 h2).put (okd_spec hd) h1, h4⟩
      · exact h
    · rename_i b hcal
      refine WO_val (by simp [e]) hd fun a w m => ?_
      obtain ⟨r, d, w', H', h1, h2, h3, h4, h5⟩ := run_biV (cs := c.args.map fun | .const _ => true | _ => false) (ty := o.type) m.H h (m.evs_ c.args)
      refine ⟨r, w', d, H', ?_, h2, h3, h4, h5⟩
      simp only [execOp, e, resolve, hcal, Sem.run_bind, Sem.run_pure, Result.andThen, invoke]
      exact h1
    · exact h
  case h_23 t e =>
    refine WO_val (by simp [e]) hd fun a w m => ?_
    obtain ⟨r, d, w', H', h1, h2, h3, h4, h5⟩ := run_mmV (P := cx.P) (t := t) m.H h
    exact ⟨r, w', d, H', by simp only [execOp, e]; exact lift h1, h2, h3, h4, h5⟩
  case h_24 t x i ok e =>
    refine WO_pure (by simp [e]) hd fun a w m => ?_
    obtain ⟨r, d, h1, h2, h3⟩ := run_lkV m.H h (m.ev_ x) (m.ev_ i)
    exact ⟨r, d, by simp only [execOp, e]; exact lift h1, h2, h3⟩
  case h_25 t x i y e =>
    refine WO_skip (by simp [e]) hd fun a w m => ?_
    obtain ⟨w', H', h1, h2, h3, h4⟩ := run_muV m.H h (m.ev_ x) (m.ev_ i) (m.ev_ y)
    exact ⟨w', H', by simp only [execOp, e, Sem.run_bind, h1, Result.andThen, Sem.run_pure], h2, h3, h4⟩
  case h_26 t x i y e =>
    refine WO_skip (by simp [e]) hd fun a w m => ?_
    obtain ⟨w', H', h1, h2, h3, h4⟩ := run_muV m.H h (m.ev_ x) (m.ev_ i) (m.ev_ y)
    exact ⟨w', H', by simp only [execOp, e, Sem.run_bind, h1, Result.andThen, Sem.run_pure], h2, h3, h4⟩
  case h_27 => exact h
def isCall : Op → Bool
  | .call ⟨.value _, _, _⟩ => true
  | _ => false
def vcOps (cx : Cx) (ops : Array Oper) (Q : Exit → St → Prop) : List Oper → St → Prop
  | [], s => Q .normal s
  | o :: rest, s => (match o.guard with
    | none => stepOp cx o s fun s' => if isCall o.op then WL cx ops rest Q s' else vcOps cx ops Q rest s'
    | some (j, want) => (match dstOf ops j with
      | some t => (match s.fr t with
        | .val (.bool b) => selV (b == want) (stepOp cx o (s.put (some t) (.val (.bool want))) fun s' => if isCall o.op then WL cx ops rest Q s' else vcOps cx ops Q rest s') (vcOps cx ops Q rest ((s.put (some t) (.val (.bool !want))).put o.dst (.val undef)))
        | .val (.tuple ⟨[]⟩) => vcOps cx ops Q rest (s.put o.dst (.val undef))
        | _ => False)
      | none => False))
def okOps (n : Nat) (ops : List Oper) : Bool := ops.all fun o => match o.dst with
  | some t => decide (t < n)
  | none => true
theorem put_it {s : St} {t : Nat} {d : D} (h : s.fr t = d) : s.put (some t) d = s := by
  cases s
  simp only [St.put] at h ⊢
  congr 1
  funext x
  by_cases e : x = t
  · rw [if_pos e, e, h]
  · rw [if_neg e]
theorem vcOps_sound {cx : Cx} {ops : List Oper} {Q : Exit → St → Prop} (hok : okOps cx.n ops = true) : ∀ {l : List Oper} {s : St}, okOps cx.n l = true → vcOps cx ops.toArray Q l s → WL cx ops.toArray l Q s
  | [], s, _, h => WL_nil h
  | o :: rest, s, hl, h => by
    simp only [okOps, List.all_cons, Bool.and_eq_true] at hl
    have hd : okd cx.n o.dst := by
      have := hl.1
      unfold okd
      cases ho : o.dst with
      | none => trivial
      | some t => rw [ho] at this; simpa using this
    have ih : ∀ s', vcOps cx ops.toArray Q rest s' → WL cx ops.toArray rest Q s' := fun s' h' => vcOps_sound hok hl.2 h'
    have ih2 : ∀ s', (if isCall o.op then WL cx ops.toArray rest Q s' else vcOps cx ops.toArray Q rest s') → WL cx ops.toArray rest Q s' := fun s' h' => by
      split at h'
      · exact h'
      · exact ih s' h'
    simp only [vcOps] at h
    split at h
    · rename_i hg
      exact WL_cons hg (WO_mono (step_sound hd h) ih2)
    · rename_i j want hg
      split at h
      · rename_i t ht
        have htn : t < cx.n := by
          unfold dstOf at ht
          cases hj : ops.toArray[j]? with
          | none => rw [hj] at ht; cases ht
          | some o' =>
            rw [hj] at ht
            have := (List.all_eq_true.1 hok) o' (by have := Array.mem_of_getElem? hj; simpa using this)
            simp at ht
            rw [ht] at this
            simpa using this
        split at h
        · rename_i b hb
          exact WL_guard hg ht htn (okd_spec hd) (.inl ⟨b, hb, fun e => by
              have h2 := selV_t h (by rw [e]; cases want <;> rfl)
              rw [put_it (by rw [hb, e])] at h2
              exact WO_mono (step_sound hd h2) ih2, fun e => by
              have h2 := selV_f h (by rw [e]; cases want <;> rfl)
              rw [put_it (by rw [hb, e])] at h2
              exact ih _ h2⟩)
        · rename_i hb
          exact WL_guard hg ht htn (okd_spec hd) (.inr ⟨hb, ih _ h⟩)
        · exact h.elim
      · exact h.elim
end Go.Proofs.YtgfhgeelfaalmaaGreatDoor
namespace Go.Proofs.YtgfhgeelfaalmaaGreatDoor
theorem ty1 : tyi Tryz.prog 1 = some ⟨.other, 1, 8, some [.nilFunc]⟩ := by kernel_rfl
theorem ty2 : tyi Tryz.prog 2 = some ⟨.int .i64, 1, 8, some [.int .i64 0]⟩ := by kernel_rfl
theorem ty3 : tyi Tryz.prog 3 = some ⟨.int .i64, 1, 8, some [.int .i64 0]⟩ := by kernel_rfl
theorem ty4 : tyi Tryz.prog 4 = some ⟨.bool, 1, 1, some [.bool false]⟩ := by kernel_rfl
theorem ty5 : tyi Tryz.prog 5 = some ⟨.int .u8, 1, 1, some [.int .u8 0]⟩ := by kernel_rfl
theorem ty6 : tyi Tryz.prog 6 = some ⟨.int .u8, 1, 1, some [.int .u8 0]⟩ := by kernel_rfl
theorem ty7 : tyi Tryz.prog 7 = some ⟨.struct [(0, 2), (1, 3), (2, 4), (3, 6)], 4, 24, some [.int .i64 0, .int .i64 0, .bool false, .int .u8 0]⟩ := by kernel_rfl
theorem ty8 : tyi Tryz.prog 8 = some ⟨.struct [(0, 2), (1, 3), (2, 4), (3, 6)], 4, 24, some [.int .i64 0, .int .i64 0, .bool false, .int .u8 0]⟩ := by kernel_rfl
theorem ty9 : tyi Tryz.prog 9 = some ⟨.string, 1, 16, some [.string ByteArray.empty]⟩ := by kernel_rfl
theorem ty10 : tyi Tryz.prog 10 = some ⟨.string, 1, 16, some [.string ByteArray.empty]⟩ := by kernel_rfl
theorem ty11 : tyi Tryz.prog 11 = some ⟨.string, 1, 16, some [.string ByteArray.empty]⟩ := by kernel_rfl
theorem ty12 : tyi Tryz.prog 12 = some ⟨.int .u64, 1, 8, some [.int .u64 0]⟩ := by kernel_rfl
theorem ty13 : tyi Tryz.prog 13 = some ⟨.struct [(0, 9), (1, 12)], 2, 24, some [.string ByteArray.empty, .int .u64 0]⟩ := by kernel_rfl
theorem ty14 : tyi Tryz.prog 14 = some ⟨.struct [(0, 9), (1, 12)], 2, 24, some [.string ByteArray.empty, .int .u64 0]⟩ := by kernel_rfl
theorem ty15 : tyi Tryz.prog 15 = some ⟨.ptr 188, 1, 8, some [.pointer none]⟩ := by kernel_rfl
theorem ty16 : tyi Tryz.prog 16 = some ⟨.ptr 191, 1, 8, some [.pointer none]⟩ := by kernel_rfl
theorem ty17 : tyi Tryz.prog 17 = some ⟨.ptr 201, 1, 8, some [.pointer none]⟩ := by kernel_rfl
theorem ty18 : tyi Tryz.prog 18 = some ⟨.struct [(0, 17)], 1, 8, some [.pointer none]⟩ := by kernel_rfl
theorem ty19 : tyi Tryz.prog 19 = some ⟨.struct [(0, 17)], 1, 8, some [.pointer none]⟩ := by kernel_rfl
theorem ty21 : tyi Tryz.prog 21 = some ⟨.int .i32, 1, 4, some [.int .i32 0]⟩ := by kernel_rfl
theorem ty22 : tyi Tryz.prog 22 = some ⟨.slice 9, 1, 24, some [.slice none 0 0]⟩ := by kernel_rfl
theorem ty23 : tyi Tryz.prog 23 = some ⟨.slice 104, 1, 24, some [.slice none 0 0]⟩ := by kernel_rfl
theorem ty24 : tyi Tryz.prog 24 = some ⟨.slice 62, 1, 24, some [.slice none 0 0]⟩ := by kernel_rfl
theorem ty25 : tyi Tryz.prog 25 = some ⟨.slice 64, 1, 24, some [.slice none 0 0]⟩ := by kernel_rfl
theorem ty26 : tyi Tryz.prog 26 = some ⟨.slice 52, 1, 24, some [.slice none 0 0]⟩ := by kernel_rfl
theorem ty27 : tyi Tryz.prog 27 = some ⟨.struct [(0, 9), (1, 22), (2, 23), (3, 24), (4, 25), (5, 3), (6, 26)], 7, 144, some [.string ByteArray.empty, .slice none 0 0, .slice none 0 0, .slice none 0 0, .slice none 0 0, .int .i64 0, .slice none 0 0]⟩ := by kernel_rfl
theorem ty28 : tyi Tryz.prog 28 = some ⟨.struct [(0, 9), (1, 22), (2, 23), (3, 24), (4, 25), (5, 3), (6, 26)], 7, 144, some [.string ByteArray.empty, .slice none 0 0, .slice none 0 0, .slice none 0 0, .slice none 0 0, .int .i64 0, .slice none 0 0]⟩ := by kernel_rfl
theorem ty29 : tyi Tryz.prog 29 = some ⟨.other, 1, 8, some [.nilFunc]⟩ := by kernel_rfl
theorem ty30 : tyi Tryz.prog 30 = some ⟨.other, 1, 8, some [.nilFunc]⟩ := by kernel_rfl
theorem ty31 : tyi Tryz.prog 31 = some ⟨.int .i64, 1, 8, some [.int .i64 0]⟩ := by kernel_rfl
theorem ty32 : tyi Tryz.prog 32 = some ⟨.other, 1, 8, some [.nilFunc]⟩ := by kernel_rfl
theorem ty33 : tyi Tryz.prog 33 = some ⟨.other, 1, 8, some [.nilFunc]⟩ := by kernel_rfl
theorem ty34 : tyi Tryz.prog 34 = some ⟨.slice 107, 1, 24, some [.slice none 0 0]⟩ := by kernel_rfl
theorem ty35 : tyi Tryz.prog 35 = some ⟨.struct [(0, 3), (1, 34)], 2, 32, some [.int .i64 0, .slice none 0 0]⟩ := by kernel_rfl
theorem ty36 : tyi Tryz.prog 36 = some ⟨.struct [(0, 3), (1, 34)], 2, 32, some [.int .i64 0, .slice none 0 0]⟩ := by kernel_rfl
theorem ty37 : tyi Tryz.prog 37 = some ⟨.struct [(0, 3), (1, 36), (3, 2)], 4, 48, some [.int .i64 0, .int .i64 0, .slice none 0 0, .int .i64 0]⟩ := by kernel_rfl
theorem ty38 : tyi Tryz.prog 38 = some ⟨.struct [(0, 3), (1, 36), (3, 2)], 4, 48, some [.int .i64 0, .int .i64 0, .slice none 0 0, .int .i64 0]⟩ := by kernel_rfl
theorem ty39 : tyi Tryz.prog 39 = some ⟨.other, 1, 8, some [.nilFunc]⟩ := by kernel_rfl
theorem ty40 : tyi Tryz.prog 40 = some ⟨.other, 1, 8, some [.nilFunc]⟩ := by kernel_rfl
theorem ty41 : tyi Tryz.prog 41 = some ⟨.other, 1, 8, some [.nilFunc]⟩ := by kernel_rfl
theorem ty42 : tyi Tryz.prog 42 = some ⟨.slice 38, 1, 24, some [.slice none 0 0]⟩ := by kernel_rfl
theorem ty43 : tyi Tryz.prog 43 = some ⟨.struct [(0, 3), (1, 3), (2, 3), (3, 4), (4, 36), (6, 42)], 7, 88, some [.int .i64 0, .int .i64 0, .int .i64 0, .bool false, .int .i64 0, .slice none 0 0, .slice none 0 0]⟩ := by kernel_rfl
theorem ty44 : tyi Tryz.prog 44 = some ⟨.struct [(0, 3), (1, 3), (2, 3), (3, 4), (4, 36), (6, 42)], 7, 88, some [.int .i64 0, .int .i64 0, .int .i64 0, .bool false, .int .i64 0, .slice none 0 0, .slice none 0 0]⟩ := by kernel_rfl
theorem ty45 : tyi Tryz.prog 45 = some ⟨.struct [(0, 3), (1, 36), (3, 44), (10, 3)], 11, 136, some [.int .i64 0, .int .i64 0, .slice none 0 0, .int .i64 0, .int .i64 0, .int .i64 0, .bool false, .int .i64 0, .slice none 0 0, .slice none 0 0, .int .i64 0]⟩ := by kernel_rfl
theorem ty46 : tyi Tryz.prog 46 = some ⟨.struct [(0, 3), (1, 36), (3, 44), (10, 3)], 11, 136, some [.int .i64 0, .int .i64 0, .slice none 0 0, .int .i64 0, .int .i64 0, .int .i64 0, .bool false, .int .i64 0, .slice none 0 0, .slice none 0 0, .int .i64 0]⟩ := by kernel_rfl
theorem ty47 : tyi Tryz.prog 47 = some ⟨.slice 46, 1, 24, some [.slice none 0 0]⟩ := by kernel_rfl
theorem ty48 : tyi Tryz.prog 48 = some ⟨.slice 3, 1, 24, some [.slice none 0 0]⟩ := by kernel_rfl
theorem ty49 : tyi Tryz.prog 49 = some ⟨.struct [(0, 3), (1, 48), (2, 42), (3, 36), (5, 9)], 6, 104, some [.int .i64 0, .slice none 0 0, .slice none 0 0, .int .i64 0, .slice none 0 0, .string ByteArray.empty]⟩ := by kernel_rfl
theorem ty50 : tyi Tryz.prog 50 = some ⟨.struct [(0, 3), (1, 48), (2, 42), (3, 36), (5, 9)], 6, 104, some [.int .i64 0, .slice none 0 0, .slice none 0 0, .int .i64 0, .slice none 0 0, .string ByteArray.empty]⟩ := by kernel_rfl
theorem ty51 : tyi Tryz.prog 51 = some ⟨.struct [(0, 47), (1, 50)], 7, 128, some [.slice none 0 0, .int .i64 0, .slice none 0 0, .slice none 0 0, .int .i64 0, .slice none 0 0, .string ByteArray.empty]⟩ := by kernel_rfl
theorem ty52 : tyi Tryz.prog 52 = some ⟨.struct [(0, 47), (1, 50)], 7, 128, some [.slice none 0 0, .int .i64 0, .slice none 0 0, .slice none 0 0, .int .i64 0, .slice none 0 0, .string ByteArray.empty]⟩ := by kernel_rfl
theorem ty53 : tyi Tryz.prog 53 = some ⟨.other, 1, 8, some [.nilFunc]⟩ := by kernel_rfl
theorem ty54 : tyi Tryz.prog 54 = some ⟨.other, 1, 8, some [.nilFunc]⟩ := by kernel_rfl
theorem ty55 : tyi Tryz.prog 55 = some ⟨.other, 1, 8, some [.nilFunc]⟩ := by kernel_rfl
theorem ty56 : tyi Tryz.prog 56 = some ⟨.other, 1, 8, some [.nilFunc]⟩ := by kernel_rfl
theorem ty57 : tyi Tryz.prog 57 = some ⟨.other, 1, 8, some [.nilFunc]⟩ := by kernel_rfl
theorem ty58 : tyi Tryz.prog 58 = some ⟨.other, 1, 8, some [.nilFunc]⟩ := by kernel_rfl
theorem ty59 : tyi Tryz.prog 59 = some ⟨.other, 1, 8, some [.nilFunc]⟩ := by kernel_rfl
theorem ty60 : tyi Tryz.prog 60 = some ⟨.other, 1, 8, some [.nilFunc]⟩ := by kernel_rfl
theorem ty61 : tyi Tryz.prog 61 = some ⟨.struct [(0, 3), (1, 4), (2, 3), (3, 3), (4, 48)], 5, 56, some [.int .i64 0, .bool false, .int .i64 0, .int .i64 0, .slice none 0 0]⟩ := by kernel_rfl
theorem ty62 : tyi Tryz.prog 62 = some ⟨.struct [(0, 3), (1, 4), (2, 3), (3, 3), (4, 48)], 5, 56, some [.int .i64 0, .bool false, .int .i64 0, .int .i64 0, .slice none 0 0]⟩ := by kernel_rfl
theorem ty63 : tyi Tryz.prog 63 = some ⟨.struct [(0, 9), (1, 3)], 2, 24, some [.string ByteArray.empty, .int .i64 0]⟩ := by kernel_rfl
theorem ty64 : tyi Tryz.prog 64 = some ⟨.struct [(0, 9), (1, 3)], 2, 24, some [.string ByteArray.empty, .int .i64 0]⟩ := by kernel_rfl
theorem ty65 : tyi Tryz.prog 65 = some ⟨.other, 1, 8, some [.nilFunc]⟩ := by kernel_rfl
theorem ty66 : tyi Tryz.prog 66 = some ⟨.ptr 124, 1, 8, some [.pointer none]⟩ := by kernel_rfl
theorem ty67 : tyi Tryz.prog 67 = some ⟨.struct [(0, 28), (7, 66)], 8, 152, some [.string ByteArray.empty, .slice none 0 0, .slice none 0 0, .slice none 0 0, .slice none 0 0, .int .i64 0, .slice none 0 0, .pointer none]⟩ := by kernel_rfl
theorem ty68 : tyi Tryz.prog 68 = some ⟨.struct [(0, 28), (7, 66)], 8, 152, some [.string ByteArray.empty, .slice none 0 0, .slice none 0 0, .slice none 0 0, .slice none 0 0, .int .i64 0, .slice none 0 0, .pointer none]⟩ := by kernel_rfl
theorem ty69 : tyi Tryz.prog 69 = some ⟨.other, 1, 8, some [.nilFunc]⟩ := by kernel_rfl
theorem ty70 : tyi Tryz.prog 70 = some ⟨.other, 1, 8, some [.nilFunc]⟩ := by kernel_rfl
theorem ty71 : tyi Tryz.prog 71 = some ⟨.other, 1, 8, some [.nilFunc]⟩ := by kernel_rfl
theorem ty72 : tyi Tryz.prog 72 = some ⟨.other, 1, 8, some [.nilFunc]⟩ := by kernel_rfl
theorem ty73 : tyi Tryz.prog 73 = some ⟨.other, 1, 8, some [.nilFunc]⟩ := by kernel_rfl
theorem ty74 : tyi Tryz.prog 74 = some ⟨.other, 1, 8, some [.nilFunc]⟩ := by kernel_rfl
theorem ty75 : tyi Tryz.prog 75 = some ⟨.other, 1, 8, some [.nilFunc]⟩ := by kernel_rfl
theorem ty76 : tyi Tryz.prog 76 = some ⟨.other, 1, 8, some [.nilFunc]⟩ := by kernel_rfl
theorem ty78 : tyi Tryz.prog 78 = some ⟨.other, 1, 8, some [.nilFunc]⟩ := by kernel_rfl
theorem ty79 : tyi Tryz.prog 79 = some ⟨.other, 1, 8, some [.nilFunc]⟩ := by kernel_rfl
theorem ty80 : tyi Tryz.prog 80 = some ⟨.other, 1, 8, some [.nilFunc]⟩ := by kernel_rfl
theorem ty81 : tyi Tryz.prog 81 = some ⟨.other, 1, 8, some [.nilFunc]⟩ := by kernel_rfl
theorem ty82 : tyi Tryz.prog 82 = some ⟨.other, 1, 8, some [.nilFunc]⟩ := by kernel_rfl
theorem ty83 : tyi Tryz.prog 83 = some ⟨.other, 1, 8, some [.nilFunc]⟩ := by kernel_rfl
theorem ty84 : tyi Tryz.prog 84 = some ⟨.other, 1, 8, some [.nilFunc]⟩ := by kernel_rfl
theorem ty85 : tyi Tryz.prog 85 = some ⟨.array 6 3, 6, 48, some [.int .i64 0, .int .i64 0, .int .i64 0, .int .i64 0, .int .i64 0, .int .i64 0]⟩ := by kernel_rfl
theorem ty86 : tyi Tryz.prog 86 = some ⟨.other, 1, 8, some [.nilFunc]⟩ := by kernel_rfl
theorem ty87 : tyi Tryz.prog 87 = some ⟨.other, 1, 8, some [.nilFunc]⟩ := by kernel_rfl
theorem ty88 : tyi Tryz.prog 88 = some ⟨.other, 1, 8, some [.nilFunc]⟩ := by kernel_rfl
theorem ty89 : tyi Tryz.prog 89 = some ⟨.other, 1, 8, some [.nilFunc]⟩ := by kernel_rfl
theorem ty90 : tyi Tryz.prog 90 = some ⟨.other, 1, 8, some [.nilFunc]⟩ := by kernel_rfl
theorem ty91 : tyi Tryz.prog 91 = some ⟨.other, 1, 8, some [.nilFunc]⟩ := by kernel_rfl
theorem ty92 : tyi Tryz.prog 92 = some ⟨.other, 1, 8, some [.nilFunc]⟩ := by kernel_rfl
theorem ty93 : tyi Tryz.prog 93 = some ⟨.other, 1, 8, some [.nilFunc]⟩ := by kernel_rfl
theorem ty94 : tyi Tryz.prog 94 = some ⟨.other, 1, 8, some [.nilFunc]⟩ := by kernel_rfl
theorem ty96 : tyi Tryz.prog 96 = some ⟨.other, 1, 8, some [.nilFunc]⟩ := by kernel_rfl
theorem ty98 : tyi Tryz.prog 98 = some ⟨.other, 1, 8, some [.nilFunc]⟩ := by kernel_rfl
theorem ty99 : tyi Tryz.prog 99 = some ⟨.other, 1, 8, some [.nilFunc]⟩ := by kernel_rfl
theorem ty100 : tyi Tryz.prog 100 = some ⟨.other, 1, 8, some [.nilFunc]⟩ := by kernel_rfl
theorem ty101 : tyi Tryz.prog 101 = some ⟨.other, 1, 8, some [.nilFunc]⟩ := by kernel_rfl
theorem ty102 : tyi Tryz.prog 102 = some ⟨.other, 1, 8, some [.nilFunc]⟩ := by kernel_rfl
theorem ty103 : tyi Tryz.prog 103 = some ⟨.other, 1, 8, some [.nilFunc]⟩ := by kernel_rfl
theorem ty104 : tyi Tryz.prog 104 = some ⟨.array 2 3, 2, 16, some [.int .i64 0, .int .i64 0]⟩ := by kernel_rfl
theorem ty105 : tyi Tryz.prog 105 = some ⟨.other, 1, 8, some [.nilFunc]⟩ := by kernel_rfl
theorem ty106 : tyi Tryz.prog 106 = some ⟨.struct [(0, 3), (1, 3)], 2, 16, some [.int .i64 0, .int .i64 0]⟩ := by kernel_rfl
theorem ty107 : tyi Tryz.prog 107 = some ⟨.struct [(0, 3), (1, 3)], 2, 16, some [.int .i64 0, .int .i64 0]⟩ := by kernel_rfl
theorem ty108 : tyi Tryz.prog 108 = some ⟨.other, 1, 8, some [.nilFunc]⟩ := by kernel_rfl
theorem ty109 : tyi Tryz.prog 109 = some ⟨.other, 1, 8, some [.nilFunc]⟩ := by kernel_rfl
theorem ty110 : tyi Tryz.prog 110 = some ⟨.other, 1, 8, some [.nilFunc]⟩ := by kernel_rfl
theorem ty111 : tyi Tryz.prog 111 = some ⟨.other, 1, 8, some [.nilFunc]⟩ := by kernel_rfl
theorem ty112 : tyi Tryz.prog 112 = some ⟨.other, 1, 8, some [.nilFunc]⟩ := by kernel_rfl
theorem ty113 : tyi Tryz.prog 113 = some ⟨.slice 31, 1, 24, some [.slice none 0 0]⟩ := by kernel_rfl
theorem ty114 : tyi Tryz.prog 114 = some ⟨.map 9 4, 1, 8, some [.map none]⟩ := by kernel_rfl
theorem ty115 : tyi Tryz.prog 115 = some ⟨.other, 1, 8, some [.nilFunc]⟩ := by kernel_rfl
theorem ty116 : tyi Tryz.prog 116 = some ⟨.ptr 118, 1, 8, some [.pointer none]⟩ := by kernel_rfl
theorem ty117 : tyi Tryz.prog 117 = some ⟨.struct [(0, 3), (1, 48)], 2, 32, some [.int .i64 0, .slice none 0 0]⟩ := by kernel_rfl
theorem ty118 : tyi Tryz.prog 118 = some ⟨.struct [(0, 3), (1, 48)], 2, 32, some [.int .i64 0, .slice none 0 0]⟩ := by kernel_rfl
theorem ty119 : tyi Tryz.prog 119 = some ⟨.other, 1, 8, some [.nilFunc]⟩ := by kernel_rfl
theorem ty121 : tyi Tryz.prog 121 = some ⟨.other, 1, 8, some [.nilFunc]⟩ := by kernel_rfl
theorem ty122 : tyi Tryz.prog 122 = some ⟨.map 3 48, 1, 8, some [.map none]⟩ := by kernel_rfl
theorem ty123 : tyi Tryz.prog 123 = some ⟨.struct [(0, 3), (1, 122), (2, 122)], 3, 24, some [.int .i64 0, .map none, .map none]⟩ := by kernel_rfl
theorem ty124 : tyi Tryz.prog 124 = some ⟨.struct [(0, 3), (1, 122), (2, 122)], 3, 24, some [.int .i64 0, .map none, .map none]⟩ := by kernel_rfl
theorem ty125 : tyi Tryz.prog 125 = some ⟨.other, 1, 8, some [.nilFunc]⟩ := by kernel_rfl
theorem ty126 : tyi Tryz.prog 126 = some ⟨.slice 128, 1, 24, some [.slice none 0 0]⟩ := by kernel_rfl
theorem ty127 : tyi Tryz.prog 127 = some ⟨.struct [(0, 3), (1, 3)], 2, 16, some [.int .i64 0, .int .i64 0]⟩ := by kernel_rfl
theorem ty128 : tyi Tryz.prog 128 = some ⟨.struct [(0, 3), (1, 3)], 2, 16, some [.int .i64 0, .int .i64 0]⟩ := by kernel_rfl
theorem ty129 : tyi Tryz.prog 129 = some ⟨.array 2 128, 4, 32, some [.int .i64 0, .int .i64 0, .int .i64 0, .int .i64 0]⟩ := by kernel_rfl
theorem ty130 : tyi Tryz.prog 130 = some ⟨.array 6 128, 12, 96, some [.int .i64 0, .int .i64 0, .int .i64 0, .int .i64 0, .int .i64 0, .int .i64 0, .int .i64 0, .int .i64 0, .int .i64 0, .int .i64 0, .int .i64 0, .int .i64 0]⟩ := by kernel_rfl
theorem ty131 : tyi Tryz.prog 131 = some ⟨.other, 1, 8, some [.nilFunc]⟩ := by kernel_rfl
theorem ty132 : tyi Tryz.prog 132 = some ⟨.other, 1, 8, some [.nilFunc]⟩ := by kernel_rfl
theorem ty133 : tyi Tryz.prog 133 = some ⟨.other, 1, 8, some [.nilFunc]⟩ := by kernel_rfl
theorem ty134 : tyi Tryz.prog 134 = some ⟨.other, 1, 8, some [.nilFunc]⟩ := by kernel_rfl
theorem ty135 : tyi Tryz.prog 135 = some ⟨.other, 1, 8, some [.nilFunc]⟩ := by kernel_rfl
theorem ty136 : tyi Tryz.prog 136 = some ⟨.map 3 4, 1, 8, some [.map none]⟩ := by kernel_rfl
theorem ty137 : tyi Tryz.prog 137 = some ⟨.other, 1, 8, some [.nilFunc]⟩ := by kernel_rfl
theorem ty138 : tyi Tryz.prog 138 = some ⟨.other, 1, 8, some [.nilFunc]⟩ := by kernel_rfl
theorem ty139 : tyi Tryz.prog 139 = some ⟨.other, 1, 8, some [.nilFunc]⟩ := by kernel_rfl
theorem ty140 : tyi Tryz.prog 140 = some ⟨.other, 1, 8, some [.nilFunc]⟩ := by kernel_rfl
theorem ty141 : tyi Tryz.prog 141 = some ⟨.other, 1, 8, some [.nilFunc]⟩ := by kernel_rfl
theorem ty142 : tyi Tryz.prog 142 = some ⟨.other, 1, 8, some [.nilFunc]⟩ := by kernel_rfl
theorem ty143 : tyi Tryz.prog 143 = some ⟨.other, 1, 8, some [.nilFunc]⟩ := by kernel_rfl
theorem ty144 : tyi Tryz.prog 144 = some ⟨.other, 1, 8, some [.nilFunc]⟩ := by kernel_rfl
theorem ty145 : tyi Tryz.prog 145 = some ⟨.array 256 4, 256, 256, some [.bool false, .bool false, .bool false, .bool false, .bool false, .bool false, .bool false, .bool false, .bool false, .bool false, .bool false, .bool false, .bool false, .bool false, .bool false, .bool false, .bool false, .bool false, .bool false, .bool false, .bool false, .bool false, .bool false, .bool false, .bool false, .bool false, .bool false, .bool false, .bool false, .bool false, .bool false, .bool false, .bool false, .bool false, .bool false, .bool false, .bool false, .bool false, .bool false, .bool false, .bool false, .bool false, .bool false, .bool false, .bool false, .bool false, .bool false, .bool false, .bool false, .bool false, .bool false, .bool false, .bool false, .bool false, .bool false, .bool false, .bool false, .bool false, .bool false, .bool false, .bool false, .bool false, .bool false, .bool false, .bool false, .bool false, .bool false, .bool false, .bool false, .bool false, .bool false, .bool false, .bool false, .bool false, .bool false, .bool false, .bool false, .bool false, .bool false, .bool false, .bool false, .bool false, .bool false, .bool false, .bool false, .bool false, .bool false, .bool false, .bool false, .bool false, .bool false, .bool false, .bool false, .bool false, .bool false, .bool false, .bool false, .bool false, .bool false, .bool false, .bool false, .bool false, .bool false, .bool false, .bool false, .bool false, .bool false, .bool false, .bool false, .bool false, .bool false, .bool false, .bool false, .bool false, .bool false, .bool false, .bool false, .bool false, .bool false, .bool false, .bool false, .bool false, .bool false, .bool false, .bool false, .bool false, .bool false, .bool false, .bool false, .bool false, .bool false, .bool false, .bool false, .bool false, .bool false, .bool false, .bool false, .bool false, .bool false, .bool false, .bool false, .bool false, .bool false, .bool false, .bool false, .bool false, .bool false, .bool false, .bool false, .bool false, .bool false, .bool false, .bool false, .bool false, .bool false, .bool false, .bool false, .bool false, .bool false, .bool false, .bool false, .bool false, .bool false, .bool false, .bool false, .bool false, .bool false, .bool false, .bool false, .bool false, .bool false, .bool false, .bool false, .bool false, .bool false, .bool false, .bool false, .bool false, .bool false, .bool false, .bool false, .bool false, .bool false, .bool false, .bool false, .bool false, .bool false, .bool false, .bool false, .bool false, .bool false, .bool false, .bool false, .bool false, .bool false, .bool false, .bool false, .bool false, .bool false, .bool false, .bool false, .bool false, .bool false, .bool false, .bool false, .bool false, .bool false, .bool false, .bool false, .bool false, .bool false, .bool false, .bool false, .bool false, .bool false, .bool false, .bool false, .bool false, .bool false, .bool false, .bool false, .bool false, .bool false, .bool false, .bool false, .bool false, .bool false, .bool false, .bool false, .bool false, .bool false, .bool false, .bool false, .bool false, .bool false, .bool false, .bool false, .bool false, .bool false, .bool false, .bool false, .bool false, .bool false, .bool false, .bool false, .bool false, .bool false, .bool false, .bool false, .bool false, .bool false, .bool false, .bool false, .bool false, .bool false, .bool false]⟩ := by kernel_rfl
theorem ty146 : tyi Tryz.prog 146 = some ⟨.array 256 4, 256, 256, some [.bool false, .bool false, .bool false, .bool false, .bool false, .bool false, .bool false, .bool false, .bool false, .bool false, .bool false, .bool false, .bool false, .bool false, .bool false, .bool false, .bool false, .bool false, .bool false, .bool false, .bool false, .bool false, .bool false, .bool false, .bool false, .bool false, .bool false, .bool false, .bool false, .bool false, .bool false, .bool false, .bool false, .bool false, .bool false, .bool false, .bool false, .bool false, .bool false, .bool false, .bool false, .bool false, .bool false, .bool false, .bool false, .bool false, .bool false, .bool false, .bool false, .bool false, .bool false, .bool false, .bool false, .bool false, .bool false, .bool false, .bool false, .bool false, .bool false, .bool false, .bool false, .bool false, .bool false, .bool false, .bool false, .bool false, .bool false, .bool false, .bool false, .bool false, .bool false, .bool false, .bool false, .bool false, .bool false, .bool false, .bool false, .bool false, .bool false, .bool false, .bool false, .bool false, .bool false, .bool false, .bool false, .bool false, .bool false, .bool false, .bool false, .bool false, .bool false, .bool false, .bool false, .bool false, .bool false, .bool false, .bool false, .bool false, .bool false, .bool false, .bool false, .bool false, .bool false, .bool false, .bool false, .bool false, .bool false, .bool false, .bool false, .bool false, .bool false, .bool false, .bool false, .bool false, .bool false, .bool false, .bool false, .bool false, .bool false, .bool false, .bool false, .bool false, .bool false, .bool false, .bool false, .bool false, .bool false, .bool false, .bool false, .bool false, .bool false, .bool false, .bool false, .bool false, .bool false, .bool false, .bool false, .bool false, .bool false, .bool false, .bool false, .bool false, .bool false, .bool false, .bool false, .bool false, .bool false, .bool false, .bool false, .bool false, .bool false, .bool false, .bool false, .bool false, .bool false, .bool false, .bool false, .bool false, .bool false, .bool false, .bool false, .bool false, .bool false, .bool false, .bool false, .bool false, .bool false, .bool false, .bool false, .bool false, .bool false, .bool false, .bool false, .bool false, .bool false, .bool false, .bool false, .bool false, .bool false, .bool false, .bool false, .bool false, .bool false, .bool false, .bool false, .bool false, .bool false, .bool false, .bool false, .bool false, .bool false, .bool false, .bool false, .bool false, .bool false, .bool false, .bool false, .bool false, .bool false, .bool false, .bool false, .bool false, .bool false, .bool false, .bool false, .bool false, .bool false, .bool false, .bool false, .bool false, .bool false, .bool false, .bool false, .bool false, .bool false, .bool false, .bool false, .bool false, .bool false, .bool false, .bool false, .bool false, .bool false, .bool false, .bool false, .bool false, .bool false, .bool false, .bool false, .bool false, .bool false, .bool false, .bool false, .bool false, .bool false, .bool false, .bool false, .bool false, .bool false, .bool false, .bool false, .bool false, .bool false, .bool false, .bool false, .bool false, .bool false, .bool false, .bool false, .bool false, .bool false, .bool false, .bool false, .bool false, .bool false, .bool false]⟩ := by kernel_rfl
theorem ty148 : tyi Tryz.prog 148 = some ⟨.other, 1, 8, some [.nilFunc]⟩ := by kernel_rfl
theorem ty149 : tyi Tryz.prog 149 = some ⟨.other, 1, 8, some [.nilFunc]⟩ := by kernel_rfl
theorem ty150 : tyi Tryz.prog 150 = some ⟨.ptr 146, 1, 8, some [.pointer none]⟩ := by kernel_rfl
theorem ty151 : tyi Tryz.prog 151 = some ⟨.other, 1, 8, some [.nilFunc]⟩ := by kernel_rfl
theorem ty152 : tyi Tryz.prog 152 = some ⟨.other, 1, 8, some [.nilFunc]⟩ := by kernel_rfl
theorem ty153 : tyi Tryz.prog 153 = some ⟨.other, 1, 8, some [.nilFunc]⟩ := by kernel_rfl
theorem ty154 : tyi Tryz.prog 154 = some ⟨.other, 1, 8, some [.nilFunc]⟩ := by kernel_rfl
theorem ty156 : tyi Tryz.prog 156 = some ⟨.other, 1, 8, some [.nilFunc]⟩ := by kernel_rfl
theorem ty157 : tyi Tryz.prog 157 = some ⟨.other, 1, 8, some [.nilFunc]⟩ := by kernel_rfl
theorem ty158 : tyi Tryz.prog 158 = some ⟨.other, 1, 8, some [.nilFunc]⟩ := by kernel_rfl
theorem ty159 : tyi Tryz.prog 159 = some ⟨.struct [(0, 3), (1, 31)], 2, 16, some [.int .i64 0, .int .i64 0]⟩ := by kernel_rfl
theorem ty160 : tyi Tryz.prog 160 = some ⟨.struct [(0, 3), (1, 31)], 2, 16, some [.int .i64 0, .int .i64 0]⟩ := by kernel_rfl
theorem ty161 : tyi Tryz.prog 161 = some ⟨.other, 1, 8, some [.nilFunc]⟩ := by kernel_rfl
theorem ty162 : tyi Tryz.prog 162 = some ⟨.other, 1, 8, some [.nilFunc]⟩ := by kernel_rfl
theorem ty163 : tyi Tryz.prog 163 = some ⟨.other, 1, 8, some [.nilFunc]⟩ := by kernel_rfl
theorem ty164 : tyi Tryz.prog 164 = some ⟨.other, 1, 8, some [.nilFunc]⟩ := by kernel_rfl
theorem ty165 : tyi Tryz.prog 165 = some ⟨.other, 1, 8, some [.nilFunc]⟩ := by kernel_rfl
theorem ty166 : tyi Tryz.prog 166 = some ⟨.other, 1, 8, some [.nilFunc]⟩ := by kernel_rfl
theorem ty167 : tyi Tryz.prog 167 = some ⟨.other, 1, 8, some [.nilFunc]⟩ := by kernel_rfl
theorem ty169 : tyi Tryz.prog 169 = some ⟨.other, 1, 8, some [.nilFunc]⟩ := by kernel_rfl
theorem ty170 : tyi Tryz.prog 170 = some ⟨.other, 1, 8, some [.nilFunc]⟩ := by kernel_rfl
theorem ty171 : tyi Tryz.prog 171 = some ⟨.other, 1, 8, some [.nilFunc]⟩ := by kernel_rfl
theorem ty172 : tyi Tryz.prog 172 = some ⟨.map 104 4, 1, 8, some [.map none]⟩ := by kernel_rfl
theorem ty174 : tyi Tryz.prog 174 = some ⟨.other, 1, 8, some [.nilFunc]⟩ := by kernel_rfl
theorem ty175 : tyi Tryz.prog 175 = some ⟨.other, 1, 8, some [.nilFunc]⟩ := by kernel_rfl
theorem ty176 : tyi Tryz.prog 176 = some ⟨.other, 1, 8, some [.nilFunc]⟩ := by kernel_rfl
theorem ty177 : tyi Tryz.prog 177 = some ⟨.other, 1, 8, some [.nilFunc]⟩ := by kernel_rfl
theorem ty178 : tyi Tryz.prog 178 = some ⟨.array 256 5, 256, 256, some [.int .u8 0, .int .u8 0, .int .u8 0, .int .u8 0, .int .u8 0, .int .u8 0, .int .u8 0, .int .u8 0, .int .u8 0, .int .u8 0, .int .u8 0, .int .u8 0, .int .u8 0, .int .u8 0, .int .u8 0, .int .u8 0, .int .u8 0, .int .u8 0, .int .u8 0, .int .u8 0, .int .u8 0, .int .u8 0, .int .u8 0, .int .u8 0, .int .u8 0, .int .u8 0, .int .u8 0, .int .u8 0, .int .u8 0, .int .u8 0, .int .u8 0, .int .u8 0, .int .u8 0, .int .u8 0, .int .u8 0, .int .u8 0, .int .u8 0, .int .u8 0, .int .u8 0, .int .u8 0, .int .u8 0, .int .u8 0, .int .u8 0, .int .u8 0, .int .u8 0, .int .u8 0, .int .u8 0, .int .u8 0, .int .u8 0, .int .u8 0, .int .u8 0, .int .u8 0, .int .u8 0, .int .u8 0, .int .u8 0, .int .u8 0, .int .u8 0, .int .u8 0, .int .u8 0, .int .u8 0, .int .u8 0, .int .u8 0, .int .u8 0, .int .u8 0, .int .u8 0, .int .u8 0, .int .u8 0, .int .u8 0, .int .u8 0, .int .u8 0, .int .u8 0, .int .u8 0, .int .u8 0, .int .u8 0, .int .u8 0, .int .u8 0, .int .u8 0, .int .u8 0, .int .u8 0, .int .u8 0, .int .u8 0, .int .u8 0, .int .u8 0, .int .u8 0, .int .u8 0, .int .u8 0, .int .u8 0, .int .u8 0, .int .u8 0, .int .u8 0, .int .u8 0, .int .u8 0, .int .u8 0, .int .u8 0, .int .u8 0, .int .u8 0, .int .u8 0, .int .u8 0, .int .u8 0, .int .u8 0, .int .u8 0, .int .u8 0, .int .u8 0, .int .u8 0, .int .u8 0, .int .u8 0, .int .u8 0, .int .u8 0, .int .u8 0, .int .u8 0, .int .u8 0, .int .u8 0, .int .u8 0, .int .u8 0, .int .u8 0, .int .u8 0, .int .u8 0, .int .u8 0, .int .u8 0, .int .u8 0, .int .u8 0, .int .u8 0, .int .u8 0, .int .u8 0, .int .u8 0, .int .u8 0, .int .u8 0, .int .u8 0, .int .u8 0, .int .u8 0, .int .u8 0, .int .u8 0, .int .u8 0, .int .u8 0, .int .u8 0, .int .u8 0, .int .u8 0, .int .u8 0, .int .u8 0, .int .u8 0, .int .u8 0, .int .u8 0, .int .u8 0, .int .u8 0, .int .u8 0, .int .u8 0, .int .u8 0, .int .u8 0, .int .u8 0, .int .u8 0, .int .u8 0, .int .u8 0, .int .u8 0, .int .u8 0, .int .u8 0, .int .u8 0, .int .u8 0, .int .u8 0, .int .u8 0, .int .u8 0, .int .u8 0, .int .u8 0, .int .u8 0, .int .u8 0, .int .u8 0, .int .u8 0, .int .u8 0, .int .u8 0, .int .u8 0, .int .u8 0, .int .u8 0, .int .u8 0, .int .u8 0, .int .u8 0, .int .u8 0, .int .u8 0, .int .u8 0, .int .u8 0, .int .u8 0, .int .u8 0, .int .u8 0, .int .u8 0, .int .u8 0, .int .u8 0, .int .u8 0, .int .u8 0, .int .u8 0, .int .u8 0, .int .u8 0, .int .u8 0, .int .u8 0, .int .u8 0, .int .u8 0, .int .u8 0, .int .u8 0, .int .u8 0, .int .u8 0, .int .u8 0, .int .u8 0, .int .u8 0, .int .u8 0, .int .u8 0, .int .u8 0, .int .u8 0, .int .u8 0, .int .u8 0, .int .u8 0, .int .u8 0, .int .u8 0, .int .u8 0, .int .u8 0, .int .u8 0, .int .u8 0, .int .u8 0, .int .u8 0, .int .u8 0, .int .u8 0, .int .u8 0, .int .u8 0, .int .u8 0, .int .u8 0, .int .u8 0, .int .u8 0, .int .u8 0, .int .u8 0, .int .u8 0, .int .u8 0, .int .u8 0, .int .u8 0, .int .u8 0, .int .u8 0, .int .u8 0, .int .u8 0, .int .u8 0, .int .u8 0, .int .u8 0, .int .u8 0, .int .u8 0, .int .u8 0, .int .u8 0, .int .u8 0, .int .u8 0, .int .u8 0, .int .u8 0, .int .u8 0, .int .u8 0, .int .u8 0, .int .u8 0, .int .u8 0, .int .u8 0, .int .u8 0, .int .u8 0, .int .u8 0, .int .u8 0, .int .u8 0, .int .u8 0]⟩ := by kernel_rfl
theorem ty179 : tyi Tryz.prog 179 = some ⟨.int .u64, 1, 8, some [.int .u64 0]⟩ := by kernel_rfl
theorem ty180 : tyi Tryz.prog 180 = some ⟨.struct [(0, 5), (1, 5)], 2, 2, some [.int .u8 0, .int .u8 0]⟩ := by kernel_rfl
theorem ty181 : tyi Tryz.prog 181 = some ⟨.struct [(0, 5), (1, 5)], 2, 2, some [.int .u8 0, .int .u8 0]⟩ := by kernel_rfl
theorem ty182 : tyi Tryz.prog 182 = some ⟨.array 16 181, 32, 32, some [.int .u8 0, .int .u8 0, .int .u8 0, .int .u8 0, .int .u8 0, .int .u8 0, .int .u8 0, .int .u8 0, .int .u8 0, .int .u8 0, .int .u8 0, .int .u8 0, .int .u8 0, .int .u8 0, .int .u8 0, .int .u8 0, .int .u8 0, .int .u8 0, .int .u8 0, .int .u8 0, .int .u8 0, .int .u8 0, .int .u8 0, .int .u8 0, .int .u8 0, .int .u8 0, .int .u8 0, .int .u8 0, .int .u8 0, .int .u8 0, .int .u8 0, .int .u8 0]⟩ := by kernel_rfl
theorem ty183 : tyi Tryz.prog 183 = some ⟨.other, 1, 8, some [.nilFunc]⟩ := by kernel_rfl
theorem ty184 : tyi Tryz.prog 184 = some ⟨.other, 1, 8, some [.nilFunc]⟩ := by kernel_rfl
theorem ty185 : tyi Tryz.prog 185 = some ⟨.other, 1, 8, some [.nilFunc]⟩ := by kernel_rfl
theorem ty186 : tyi Tryz.prog 186 = some ⟨.other, 1, 8, some [.nilFunc]⟩ := by kernel_rfl
theorem ty187 : tyi Tryz.prog 187 = some ⟨.struct [(0, 17), (1, 17), (2, 17), (3, 9)], 4, 40, some [.pointer none, .pointer none, .pointer none, .string ByteArray.empty]⟩ := by kernel_rfl
theorem ty188 : tyi Tryz.prog 188 = some ⟨.struct [(0, 17), (1, 17), (2, 17), (3, 9)], 4, 40, some [.pointer none, .pointer none, .pointer none, .string ByteArray.empty]⟩ := by kernel_rfl
theorem ty189 : tyi Tryz.prog 189 = some ⟨.array 0 16, 0, 0, some []⟩ := by kernel_rfl
theorem ty190 : tyi Tryz.prog 190 = some ⟨.struct [(0, 189)], 0, 0, some []⟩ := by kernel_rfl
theorem ty191 : tyi Tryz.prog 191 = some ⟨.struct [(0, 189)], 0, 0, some []⟩ := by kernel_rfl
theorem ty192 : tyi Tryz.prog 192 = some ⟨.other, 1, 8, some [.nilFunc]⟩ := by kernel_rfl
theorem ty193 : tyi Tryz.prog 193 = some ⟨.int .u32, 1, 4, some [.int .u32 0]⟩ := by kernel_rfl
theorem ty194 : tyi Tryz.prog 194 = some ⟨.int .u8, 1, 1, some [.int .u8 0]⟩ := by kernel_rfl
theorem ty195 : tyi Tryz.prog 195 = some ⟨.int .u8, 1, 1, some [.int .u8 0]⟩ := by kernel_rfl
theorem ty196 : tyi Tryz.prog 196 = some ⟨.other, 1, 8, some [.nilFunc]⟩ := by kernel_rfl
theorem ty197 : tyi Tryz.prog 197 = some ⟨.ptr 5, 1, 8, some [.pointer none]⟩ := by kernel_rfl
theorem ty198 : tyi Tryz.prog 198 = some ⟨.int .i32, 1, 4, some [.int .i32 0]⟩ := by kernel_rfl
theorem ty199 : tyi Tryz.prog 199 = some ⟨.int .i32, 1, 4, some [.int .i32 0]⟩ := by kernel_rfl
theorem ty200 : tyi Tryz.prog 200 = some ⟨.struct [(0, 12), (1, 12), (2, 193), (3, 194), (4, 5), (5, 5), (6, 195), (7, 196), (8, 197), (9, 198), (10, 199)], 11, 48, some [.int .u64 0, .int .u64 0, .int .u32 0, .int .u8 0, .int .u8 0, .int .u8 0, .int .u8 0, .nilFunc, .pointer none, .int .i32 0, .int .i32 0]⟩ := by kernel_rfl
theorem ty201 : tyi Tryz.prog 201 = some ⟨.struct [(0, 12), (1, 12), (2, 193), (3, 194), (4, 5), (5, 5), (6, 195), (7, 196), (8, 197), (9, 198), (10, 199)], 11, 48, some [.int .u64 0, .int .u64 0, .int .u32 0, .int .u8 0, .int .u8 0, .int .u8 0, .int .u8 0, .nilFunc, .pointer none, .int .i32 0, .int .i32 0]⟩ := by kernel_rfl
end Go.Proofs.YtgfhgeelfaalmaaGreatDoor
namespace Go.Proofs.YtgfhgeelfaalmaaGreatDoor
open Go.RowKit
set_option linter.unusedVariables false
set_option linter.unusedSimpArgs false
def condV (d : D) (A B : Prop) : Prop :=
  match d with
  | .val (.bool b) => selV b A B
  | _ => False
theorem W_if {cx : Cx} {Q : Exit → St → Prop} {s : St} {c : Operand} {x y : Code} (h : condV (s.ev c) (W cx x Q s) (W cx y Q s)) : W cx (.cond c x y) Q s := by
  unfold condV at h
  split at h
  · rename_i b hb
    exact W_cond b hb (selV_t h) (selV_f h)
  · exact h.elim
theorem put_some_fr (s : St) (t : Nat) (d : D) (x : Nat) : (s.put (some t) d).fr x = if x = t then d else s.fr x := rfl
theorem put_none (s : St) (d : D) : s.put none d = s := rfl
theorem put_H (s : St) (t : Option Tmp) (d : D) : (s.put t d).H = s.H := by cases t <;> rfl
theorem put_df (s : St) (t : Option Tmp) (d : D) : (s.put t d).df = s.df := by cases t <;> rfl
theorem withH_H (s : St) (H : Heap) : (s.withH H).H = H := rfl
theorem withH_fr (s : St) (H : Heap) : (s.withH H).fr = s.fr := rfl
theorem withH_df (s : St) (H : Heap) : (s.withH H).df = s.df := rfl
theorem ev_tmp (s : St) (t : Nat) : s.ev (.tmp t) = s.fr t := rfl
theorem ev_const (s : St) (v : Value) : s.ev (.const v) = D.ofV v := rfl
theorem ev_func (s : St) (f : FuncId) : s.ev (.func f) = .fn f [] := rfl
theorem ev_global (s : St) (g : Nat) : s.ev (.global g) = gD g := rfl
theorem init_fr (ds : List D) (H : Heap) (t : Nat) : (St.init ds H).fr t = ds.getD t (.val undef) := rfl
theorem init_H (ds : List D) (H : Heap) : (St.init ds H).H = H := rfl
theorem init_df (ds : List D) (H : Heap) : (St.init ds H).df = [] := rfl
theorem evs_arr (s : St) (l : List Operand) : s.evs ⟨l⟩ = l.map s.ev := rfl
theorem parts_arr (s : St) (l : List (Nat × Operand)) : s.parts ⟨l⟩ = l.map fun p => (p.1, s.ev p.2) := rfl
theorem ofV_int (k : IntKind) (n : Int) : D.ofV (.int k n) = .val (.int k n) := rfl
theorem ofV_bool (b : Bool) : D.ofV (.bool b) = .val (.bool b) := rfl
theorem ofV_string (s : ByteArray) : D.ofV (.string s) = .val (.string s) := rfl
theorem ofV_slice (a : Option Addr) (n c : Nat) : D.ofV (.slice a n c) = .val (.slice a n c) := rfl
theorem ofV_pointer (a : Option Addr) : D.ofV (.pointer a) = .val (.pointer a) := rfl
theorem ofV_map (a : Option Nat) : D.ofV (.map a) = .val (.map a) := rfl
theorem ofV_nilFunc : D.ofV .nilFunc = .val .nilFunc := rfl
theorem toList_arr {α : Type} (l : List α) : (⟨l⟩ : Array α).toList = l := rfl
theorem dst_arr (l : List Oper) (j : Nat) : dstOf ⟨l⟩ j = (l[j]?).bind (·.dst) := by simp [dstOf]
def retV (P : Program) (s : St) (rs : List ResultVar) (K : D → Prop) : Prop :=
  match rs with
  | [.tmp t] => K (s.fr t)
  | [.tmp t, .tmp u] => K (.tup [s.fr t, s.fr u])
  | [.tmp t, .tmp u, .tmp v] => K (.tup [s.fr t, s.fr u, s.fr v])
  | [] => K (.tup [])
  | [.cell a t] => ldV P s.H t (s.fr a) K
  | [.cell a t, .cell b u] => ldV P s.H t (s.fr a) fun x => ldV P s.H u (s.fr b) fun y => K (.tup [x, y])
  | [.cell a t, .cell b u, .cell c v] => ldV P s.H t (s.fr a) fun x => ldV P s.H u (s.fr b) fun y => ldV P s.H v (s.fr c) fun z => K (.tup [x, y, z])
  | [.cell a t, .tmp u] => ldV P s.H t (s.fr a) fun x => K (.tup [x, s.fr u])
  | [.tmp u, .cell a t] => ldV P s.H t (s.fr a) fun x => K (.tup [s.fr u, x])
  | _ => False
theorem run_cell {P : Program} {cx : Cx} {s : St} {a : Act} {w : World} (m : Match cx s a w) {t : Nat} {ty : TypeId} {K : D → Prop} (h : ldV P s.H ty (s.fr t) K) : ∃ u d p, a.tmps[t]?.getD undef = .pointer (some p) ∧ (loadVar ty p).run P w = .ok u w ∧ D.is w s.H.others d u ∧ K d := by
  obtain ⟨u, d, h1, h2, h3⟩ := run_ldV m.H h (m.fr t)
  have hp : ∃ p, a.tmps.getD t undef = .pointer (some p) := by
    have hf := m.fr t
    unfold ldV at h
    split at h
    · split at h
      · rename_i e; rw [e] at hf; simp only [D.is] at hf; obtain ⟨b, o, hv, _⟩ := hf; exact ⟨_, hv⟩
      · rename_i e; rw [e] at hf; simp only [D.is] at hf; exact ⟨_, hf⟩
      · exact h.elim
    · exact h.elim
  obtain ⟨p, hp⟩ := hp
  refine ⟨u, d, p, by rw [← Array.getD_eq_getD_getElem?]; exact hp, ?_, h2, h3⟩
  rw [hp] at h1
  simpa only [Instr.loadAt, Instr.sureAddr, Sem.run_bind, Sem.run_pure, Result.andThen] using h1
theorem endQ_ret {cx : Cx} {fn : Func} {K : D → Heap → Prop} {s : St} {e : Exit} (he : e = .normal ∨ e = .ret) (hdf : s.df = []) (h : retV cx.P s fn.results.toList fun d => ∃ H', H'.le s.H ∧ K d H') : endQ cx fn K e s := by
  have key : ResIs cx fn s K := by
    intro a w m
    have fin : ∀ (v : Value) (d : D), (results fn a.tmps).run cx.P w = .ok v w → D.is w s.H.others d v → (∃ H', H'.le s.H ∧ K d H') → ∃ v d H', (results fn a.tmps).run cx.P w = .ok v w ∧ D.is w H'.others d v ∧ H'.le s.H ∧ K d H' := by
      rintro v d h1 h2 ⟨H', h3, h4⟩
      exact ⟨v, d, H', h1, D.is_keep (Kept.less h3 w) _ h2, h3, h4⟩
    have hrs : ∀ l, fn.results.toList = l → fn.results = ⟨l⟩ := fun l e => Array.ext' (by simpa using e)
    unfold retV at h
    split at h
    · rename_i t e
      exact fin _ _ (by simp [results, hrs _ e]) (m.fr t) h
    · rename_i t u e
      exact fin (.tuple #[a.tmps.getD t undef, a.tmps.getD u undef]) _ (by simp [results, hrs _ e]) (by simp only [D.is, valsAll]; exact ⟨_, rfl, _, _, rfl, m.fr t, _, _, rfl, m.fr u, rfl⟩) h
    · rename_i t u v e
      exact fin (.tuple #[a.tmps.getD t undef, a.tmps.getD u undef, a.tmps.getD v undef]) _ (by simp [results, hrs _ e]) (by simp only [D.is, valsAll]; exact ⟨_, rfl, _, _, rfl, m.fr t, _, _, rfl, m.fr u, _, _, rfl, m.fr v, rfl⟩) h
    · rename_i e
      exact fin (.tuple #[]) _ (by simp [results, hrs _ e]) (by simp only [D.is, valsAll]; exact ⟨_, rfl, rfl⟩) h
    · rename_i b t e
      obtain ⟨x, dx, p, h0, h1, h2, h3⟩ := run_cell m h
      exact fin x dx (by simp [results, hrs _ e, h0, h1, Result.andThen, asAddr]) h2 h3
    · rename_i b t c u e
      obtain ⟨x, dx, p, h0, h1, h2, h3⟩ := run_cell m h
      obtain ⟨y, dy, q, g0, h4, h5, h6⟩ := run_cell m h3
      exact fin (.tuple #[x, y]) _ (by simp [results, hrs _ e, h0, h1, g0, h4, Result.andThen, asAddr]) (by simp only [D.is, valsAll]; exact ⟨_, rfl, _, _, rfl, h2, _, _, rfl, h5, rfl⟩) h6
    · rename_i b t c u d v e
      obtain ⟨x, dx, p, h0, h1, h2, h3⟩ := run_cell m h
      obtain ⟨y, dy, q, g0, h4, h5, h6⟩ := run_cell m h3
      obtain ⟨z, dz, r, k0, h7, h8, h9⟩ := run_cell m h6
      exact fin (.tuple #[x, y, z]) _ (by simp [results, hrs _ e, h0, h1, g0, h4, k0, h7, Result.andThen, asAddr]) (by simp only [D.is, valsAll]; exact ⟨_, rfl, _, _, rfl, h2, _, _, rfl, h5, _, _, rfl, h8, rfl⟩) h9
    · rename_i b t u e
      obtain ⟨x, dx, p, h0, h1, h2, h3⟩ := run_cell m h
      exact fin (.tuple #[x, a.tmps.getD u undef]) _ (by simp [results, hrs _ e, h0, h1, Result.andThen, asAddr]) (by simp only [D.is, valsAll]; exact ⟨_, rfl, _, _, rfl, h2, _, _, rfl, m.fr u, rfl⟩) h3
    · rename_i u b t e
      obtain ⟨x, dx, p, h0, h1, h2, h3⟩ := run_cell m h
      exact fin (.tuple #[a.tmps.getD u undef, x]) _ (by simp [results, hrs _ e, h0, h1, Result.andThen, asAddr]) (by simp only [D.is, valsAll]; exact ⟨_, rfl, _, _, rfl, m.fr u, _, _, rfl, h2, rfl⟩) h3
    · exact h.elim
  rcases he with rfl | rfl <;> exact ⟨hdf, key⟩
theorem does_of {P : Program} {f : FuncId} {fn : Func} {c : Code} {ds : List D} {H : Heap} {K : D → Heap → Prop} (N : Nat) (rs : List ResultVar) (hf : P.funcs[f]? = some fn) (hname : (fn.name == "runtime.NumGoroutine") = false) (hb : fn.body = some c) (hN : fn.ntmps = N) (hrs : fn.results = rs.toArray) (hl : ds.length ≤ N)
    (h : ∀ w0 (g0 : GOk w0 H) (Q : Exit → St → Prop), (∀ e s, e = .normal ∨ e = .ret → s.df = [] → retV P s rs (fun d => ∃ H', H'.le s.H ∧ K d H') → Q e s) → W ⟨P, none, N, H, w0, g0⟩ c Q (St.init ds H)) : Does P f ds H K :=
  does_enter N hf hname hb hN hl fun w0 g0 => h w0 g0 _ fun _ _ he hdf hr => endQ_ret he hdf (by rw [hrs]; simpa using hr)
theorem bits_i64 : IntKind.i64.bits = 64 := rfl
theorem bits_u64 : IntKind.u64.bits = 64 := rfl
theorem bits_u32 : IntKind.u32.bits = 32 := rfl
theorem bits_u16 : IntKind.u16.bits = 16 := rfl
theorem bits_u8 : IntKind.u8.bits = 8 := rfl
theorem wrap_i64_of {x : Int} (h : -9223372036854775808 ≤ x ∧ x ≤ 9223372036854775807) : IntKind.i64.wrap x = x := by rw [IntKind.wrap_i64]; omega
theorem withH_put (s : St) (t : Option Tmp) (d : D) (H : Heap) : (s.put t d).withH H = (s.withH H).put t d := by cases t <;> rfl
theorem withH_withH (s : St) (H H' : Heap) : (s.withH H).withH H' = s.withH H' := rfl
theorem init_withH (ds : List D) (H H' : Heap) : (St.init ds H).withH H' = St.init ds H' := rfl
theorem Heap.upd_none {H : Heap} {b c : Nat} {x : HObj} : (H.upd b x) c = Option.none ↔ c ≠ b ∧ H c = Option.none := by
  by_cases h : c = b
  · subst h; simp [Heap.upd_same]
  · simp [Heap.upd_ne h, h]
theorem Heap.del_upd_same (H : Heap) (b : Nat) (x : HObj) : (H.upd b x).del b = H.del b := funext fun c => by
  by_cases h : c = b
  · subst h; rw [Heap.del_same, Heap.del_same]
  · rw [Heap.del_ne h, Heap.del_ne h, Heap.upd_ne h]
theorem Heap.del_upd_ne {H : Heap} {b c : Nat} {x : HObj} (h : b ≠ c) : (H.upd c x).del b = (H.del b).upd c x := funext fun k => by
  by_cases h1 : k = b
  · subst h1; rw [Heap.del_same, Heap.upd_ne h, Heap.del_same]
  · rw [Heap.del_ne h1]
    by_cases h2 : k = c
    · subst h2; rw [Heap.upd_same, Heap.upd_same]
    · rw [Heap.upd_ne h2, Heap.upd_ne h2, Heap.del_ne h1]
theorem Heap.del_none {H : Heap} {b : Nat} (h : H b = Option.none) : H.del b = H := funext fun k => by
  by_cases h1 : k = b
  · subst h1; rw [Heap.del_same, h]
  · rw [Heap.del_ne h1]
theorem Heap.upd_upd (H : Heap) (b : Nat) (x y : HObj) : (H.upd b x).upd b y = H.upd b y := funext fun k => by
  by_cases h1 : k = b
  · subst h1; rw [Heap.upd_same, Heap.upd_same]
  · rw [Heap.upd_ne h1, Heap.upd_ne h1, Heap.upd_ne h1]
theorem Heap.le_del {H H' : Heap} {b : Nat} (h : H.le H') (hb : H b = Option.none) : H.le (H'.del b) := fun c y e => by
  by_cases hc : c = b
  · subst hc; rw [hb] at e; cases e
  · rw [Heap.del_ne hc]; exact h _ _ e
set_option linter.defProp false
theorem take_len_map {α β : Type} (f : α → β) (l : List α) : List.take l.length (List.map f l) = List.map f l := List.take_of_length_le (by rw [List.length_map]; exact Nat.le_refl _)
def vB0 := And.intro @put_some_fr (And.intro @put_none (And.intro @withH_put (And.intro @withH_withH (And.intro @init_withH (And.intro @put_H (And.intro @put_df (And.intro @withH_H (And.intro @withH_fr (And.intro @withH_df (And.intro @ev_tmp (@ev_const)))))))))))
def vB1 := And.intro @ev_func (And.intro @ev_global (And.intro @init_fr (And.intro @init_H (And.intro @init_df (And.intro @evs_arr (And.intro @parts_arr (And.intro @ofV_int (And.intro @ofV_bool (And.intro @ofV_string (And.intro @ofV_slice (@ofV_pointer)))))))))))
def vB2 := And.intro @ofV_map (And.intro @ofV_nilFunc (And.intro @toList_arr (And.intro @dst_arr (And.intro @List.map_cons.{0,0} (And.intro @List.map_nil.{0,0} (And.intro @List.getElem?_cons_zero.{0} (And.intro @List.getElem?_cons_succ.{0} (And.intro @List.getElem?_nil.{0} (And.intro @List.getD_cons_zero.{0} (And.intro @List.getD_cons_succ.{0} (@List.getD_nil.{0})))))))))))
def vB3 := And.intro @List.drop_zero.{0} (And.intro @List.drop_succ_cons.{0} (And.intro @List.take_succ_cons.{0} (And.intro @List.take_zero.{0} (And.intro @List.length_cons.{0} (And.intro @List.length_nil.{0} (And.intro @List.nil_append.{0} (And.intro @List.cons_append.{0} (And.intro @List.append_nil.{0} (And.intro @List.set_cons_zero.{0} (And.intro @List.set_cons_succ.{0} (@List.all_cons.{0})))))))))))
def vB4 := And.intro @List.all_nil.{0} (And.intro @Option.isSome_some.{0} (And.intro @Option.map_some.{0,0} (And.intro @Option.map_none.{0,0} (And.intro @Option.bind_some.{0,0} (And.intro @Bool.and_true (And.intro @Bool.and_false (And.intro @Bool.true_and (And.intro @decide_eq_true_eq (And.intro @decide_eq_false_iff_not (And.intro @Bool.not_eq_true' (@Bool.not_eq_false')))))))))))
def vB5 := And.intro @Bool.not_true (And.intro @Bool.not_false (And.intro @and_true (And.intro @true_and (And.intro @not_false_eq_true (And.intro @Bool.false_eq_true (And.intro @bits_i64 (And.intro @bits_u64 (And.intro @bits_u32 (And.intro @bits_u16 (And.intro @bits_u8 (@Int.toNat_natCast)))))))))))
def vB6 := And.intro @Nat.zero_add (And.intro @Nat.add_zero (And.intro @Heap.upd_same (And.intro @Heap.del_upd_same (And.intro @List.length_map.{0,0} (And.intro @Nat.le_refl (And.intro @List.take_length.{0} (And.intro @List.replicate_zero.{0} (And.intro @List.replicate_succ.{0} (And.intro @beq_true (And.intro @beq_false (@Classical.not_not)))))))))))
def vB7 := And.intro @not_true_eq_false (And.intro @decide_true (And.intro @decide_false (And.intro @Int.cast_ofNat_Int (And.intro @Int.natCast_zero (And.intro @Int.natCast_one (@ite_and))))))
def vB := And.intro @vB0 (And.intro @vB1 (And.intro @vB2 (And.intro @vB3 (And.intro @vB4 (And.intro @vB5 (And.intro @vB6 (@vB7)))))))
def vX := And.intro @Heap.upd_upd (And.intro @Int.le_refl (And.intro @take_len_map (And.intro @bstr_size (@bstr_toList))))
def vT := And.intro ty1 (And.intro ty2 (And.intro ty3 (And.intro ty4 (And.intro ty5 (And.intro ty6 (And.intro ty7 (And.intro ty8 (And.intro ty9 (And.intro ty10 (And.intro ty11 (And.intro ty12 (And.intro ty13 (And.intro ty14 (And.intro ty15 (And.intro ty16 (And.intro ty17 (And.intro ty18 (And.intro ty19 (And.intro ty21 (And.intro ty22 (And.intro ty23 (And.intro ty24 (And.intro ty25 (And.intro ty26 (And.intro ty27 (And.intro ty28 (And.intro ty29 (And.intro ty30 (And.intro ty31 (And.intro ty32 (And.intro ty33 (And.intro ty34 (And.intro ty35 (And.intro ty36 (And.intro ty37 (And.intro ty38 (And.intro ty39 (And.intro ty40 (And.intro ty41 (And.intro ty42 (And.intro ty43 (And.intro ty44 (And.intro ty45 (And.intro ty46 (And.intro ty47 (And.intro ty48 (And.intro ty49 (And.intro ty50 (And.intro ty51 (And.intro ty52 (And.intro ty53 (And.intro ty54 (And.intro ty55 (And.intro ty56 (And.intro ty57 (And.intro ty58 (And.intro ty59 (And.intro ty60 (And.intro ty61 (And.intro ty62 (And.intro ty63 (And.intro ty64 (And.intro ty65 (And.intro ty66 (And.intro ty67 (And.intro ty68 (And.intro ty69 (And.intro ty70 (And.intro ty71 (And.intro ty72 (And.intro ty73 (And.intro ty74 (And.intro ty75 (And.intro ty76 (And.intro ty78 (And.intro ty79 (And.intro ty80 (And.intro ty81 (And.intro ty82 (And.intro ty83 (And.intro ty84 (And.intro ty85 (And.intro ty86 (And.intro ty87 (And.intro ty88 (And.intro ty89 (And.intro ty90 (And.intro ty91 (And.intro ty92 (And.intro ty93 (And.intro ty94 (And.intro ty96 (And.intro ty98 (And.intro ty99 (And.intro ty100 (And.intro ty101 (And.intro ty102 (And.intro ty103 (And.intro ty104 (And.intro ty105 (And.intro ty106 (And.intro ty107 (And.intro ty108 (And.intro ty109 (And.intro ty110 (And.intro ty111 (And.intro ty112 (And.intro ty113 (And.intro ty114 (And.intro ty115 (And.intro ty116 (And.intro ty117 (And.intro ty118 (And.intro ty119 (And.intro ty121 (And.intro ty122 (And.intro ty123 (And.intro ty124 (And.intro ty125 (And.intro ty126 (And.intro ty127 (And.intro ty128 (And.intro ty129 (And.intro ty130 (And.intro ty131 (And.intro ty132 (And.intro ty133 (And.intro ty134 (And.intro ty135 (And.intro ty136 (And.intro ty137 (And.intro ty138 (And.intro ty139 (And.intro ty140 (And.intro ty141 (And.intro ty142 (And.intro ty143 (And.intro ty144 (And.intro ty145 (And.intro ty146 (And.intro ty148 (And.intro ty149 (And.intro ty150 (And.intro ty151 (And.intro ty152 (And.intro ty153 (And.intro ty154 (And.intro ty156 (And.intro ty157 (And.intro ty158 (And.intro ty159 (And.intro ty160 (And.intro ty161 (And.intro ty162 (And.intro ty163 (And.intro ty164 (And.intro ty165 (And.intro ty166 (And.intro ty167 (And.intro ty169 (And.intro ty170 (And.intro ty171 (And.intro ty172 (And.intro ty174 (And.intro ty175 (And.intro ty176 (And.intro ty177 (And.intro ty178 (And.intro ty179 (And.intro ty180 (And.intro ty181 (And.intro ty182 (And.intro ty183 (And.intro ty184 (And.intro ty185 (And.intro ty186 (And.intro ty187 (And.intro ty188 (And.intro ty189 (And.intro ty190 (And.intro ty191 (And.intro ty192 (And.intro ty193 (And.intro ty194 (And.intro ty195 (And.intro ty196 (And.intro ty197 (And.intro ty198 (And.intro ty199 (And.intro ty200 (ty201)))))))))))))))))))))))))))))))))))))))))))))))))))))))))))))))))))))))))))))))))))))))))))))))))))))))))))))))))))))))))))))))))))))))))))))))))))))))))))))))))))))))))))))))))))))))))))))))
theorem zv1 : zeroOf Tryz.prog 1 = some (.nilFunc) := by kernel_rfl
theorem zv2 : zeroOf Tryz.prog 2 = some (.int .i64 0) := by kernel_rfl
theorem zv3 : zeroOf Tryz.prog 3 = some (.int .i64 0) := by kernel_rfl
theorem zv4 : zeroOf Tryz.prog 4 = some (.bool false) := by kernel_rfl
theorem zv5 : zeroOf Tryz.prog 5 = some (.int .u8 0) := by kernel_rfl
theorem zv6 : zeroOf Tryz.prog 6 = some (.int .u8 0) := by kernel_rfl
theorem zv9 : zeroOf Tryz.prog 9 = some (.string ByteArray.empty) := by kernel_rfl
theorem zv10 : zeroOf Tryz.prog 10 = some (.string ByteArray.empty) := by kernel_rfl
theorem zv11 : zeroOf Tryz.prog 11 = some (.string ByteArray.empty) := by kernel_rfl
theorem zv12 : zeroOf Tryz.prog 12 = some (.int .u64 0) := by kernel_rfl
theorem zv15 : zeroOf Tryz.prog 15 = some (.pointer none) := by kernel_rfl
theorem zv16 : zeroOf Tryz.prog 16 = some (.pointer none) := by kernel_rfl
theorem zv17 : zeroOf Tryz.prog 17 = some (.pointer none) := by kernel_rfl
theorem zv21 : zeroOf Tryz.prog 21 = some (.int .i32 0) := by kernel_rfl
theorem zv22 : zeroOf Tryz.prog 22 = some (.slice none 0 0) := by kernel_rfl
theorem zv23 : zeroOf Tryz.prog 23 = some (.slice none 0 0) := by kernel_rfl
theorem zv24 : zeroOf Tryz.prog 24 = some (.slice none 0 0) := by kernel_rfl
theorem zv25 : zeroOf Tryz.prog 25 = some (.slice none 0 0) := by kernel_rfl
theorem zv26 : zeroOf Tryz.prog 26 = some (.slice none 0 0) := by kernel_rfl
theorem zv29 : zeroOf Tryz.prog 29 = some (.nilFunc) := by kernel_rfl
theorem zv30 : zeroOf Tryz.prog 30 = some (.nilFunc) := by kernel_rfl
theorem zv31 : zeroOf Tryz.prog 31 = some (.int .i64 0) := by kernel_rfl
theorem zv32 : zeroOf Tryz.prog 32 = some (.nilFunc) := by kernel_rfl
theorem zv33 : zeroOf Tryz.prog 33 = some (.nilFunc) := by kernel_rfl
theorem zv34 : zeroOf Tryz.prog 34 = some (.slice none 0 0) := by kernel_rfl
theorem zv39 : zeroOf Tryz.prog 39 = some (.nilFunc) := by kernel_rfl
theorem zv40 : zeroOf Tryz.prog 40 = some (.nilFunc) := by kernel_rfl
theorem zv41 : zeroOf Tryz.prog 41 = some (.nilFunc) := by kernel_rfl
theorem zv42 : zeroOf Tryz.prog 42 = some (.slice none 0 0) := by kernel_rfl
theorem zv47 : zeroOf Tryz.prog 47 = some (.slice none 0 0) := by kernel_rfl
theorem zv48 : zeroOf Tryz.prog 48 = some (.slice none 0 0) := by kernel_rfl
theorem zv53 : zeroOf Tryz.prog 53 = some (.nilFunc) := by kernel_rfl
theorem zv54 : zeroOf Tryz.prog 54 = some (.nilFunc) := by kernel_rfl
theorem zv55 : zeroOf Tryz.prog 55 = some (.nilFunc) := by kernel_rfl
theorem zv56 : zeroOf Tryz.prog 56 = some (.nilFunc) := by kernel_rfl
theorem zv57 : zeroOf Tryz.prog 57 = some (.nilFunc) := by kernel_rfl
theorem zv58 : zeroOf Tryz.prog 58 = some (.nilFunc) := by kernel_rfl
theorem zv59 : zeroOf Tryz.prog 59 = some (.nilFunc) := by kernel_rfl
theorem zv60 : zeroOf Tryz.prog 60 = some (.nilFunc) := by kernel_rfl
theorem zv65 : zeroOf Tryz.prog 65 = some (.nilFunc) := by kernel_rfl
theorem zv66 : zeroOf Tryz.prog 66 = some (.pointer none) := by kernel_rfl
theorem zv69 : zeroOf Tryz.prog 69 = some (.nilFunc) := by kernel_rfl
theorem zv70 : zeroOf Tryz.prog 70 = some (.nilFunc) := by kernel_rfl
theorem zv71 : zeroOf Tryz.prog 71 = some (.nilFunc) := by kernel_rfl
theorem zv72 : zeroOf Tryz.prog 72 = some (.nilFunc) := by kernel_rfl
theorem zv73 : zeroOf Tryz.prog 73 = some (.nilFunc) := by kernel_rfl
theorem zv74 : zeroOf Tryz.prog 74 = some (.nilFunc) := by kernel_rfl
theorem zv75 : zeroOf Tryz.prog 75 = some (.nilFunc) := by kernel_rfl
theorem zv76 : zeroOf Tryz.prog 76 = some (.nilFunc) := by kernel_rfl
theorem zv78 : zeroOf Tryz.prog 78 = some (.nilFunc) := by kernel_rfl
theorem zv79 : zeroOf Tryz.prog 79 = some (.nilFunc) := by kernel_rfl
theorem zv80 : zeroOf Tryz.prog 80 = some (.nilFunc) := by kernel_rfl
theorem zv81 : zeroOf Tryz.prog 81 = some (.nilFunc) := by kernel_rfl
theorem zv82 : zeroOf Tryz.prog 82 = some (.nilFunc) := by kernel_rfl
theorem zv83 : zeroOf Tryz.prog 83 = some (.nilFunc) := by kernel_rfl
theorem zv84 : zeroOf Tryz.prog 84 = some (.nilFunc) := by kernel_rfl
theorem zv86 : zeroOf Tryz.prog 86 = some (.nilFunc) := by kernel_rfl
theorem zv87 : zeroOf Tryz.prog 87 = some (.nilFunc) := by kernel_rfl
theorem zv88 : zeroOf Tryz.prog 88 = some (.nilFunc) := by kernel_rfl
theorem zv89 : zeroOf Tryz.prog 89 = some (.nilFunc) := by kernel_rfl
theorem zv90 : zeroOf Tryz.prog 90 = some (.nilFunc) := by kernel_rfl
theorem zv91 : zeroOf Tryz.prog 91 = some (.nilFunc) := by kernel_rfl
theorem zv92 : zeroOf Tryz.prog 92 = some (.nilFunc) := by kernel_rfl
theorem zv93 : zeroOf Tryz.prog 93 = some (.nilFunc) := by kernel_rfl
theorem zv94 : zeroOf Tryz.prog 94 = some (.nilFunc) := by kernel_rfl
theorem zv96 : zeroOf Tryz.prog 96 = some (.nilFunc) := by kernel_rfl
theorem zv98 : zeroOf Tryz.prog 98 = some (.nilFunc) := by kernel_rfl
theorem zv99 : zeroOf Tryz.prog 99 = some (.nilFunc) := by kernel_rfl
theorem zv100 : zeroOf Tryz.prog 100 = some (.nilFunc) := by kernel_rfl
theorem zv101 : zeroOf Tryz.prog 101 = some (.nilFunc) := by kernel_rfl
theorem zv102 : zeroOf Tryz.prog 102 = some (.nilFunc) := by kernel_rfl
theorem zv103 : zeroOf Tryz.prog 103 = some (.nilFunc) := by kernel_rfl
theorem zv105 : zeroOf Tryz.prog 105 = some (.nilFunc) := by kernel_rfl
theorem zv108 : zeroOf Tryz.prog 108 = some (.nilFunc) := by kernel_rfl
theorem zv109 : zeroOf Tryz.prog 109 = some (.nilFunc) := by kernel_rfl
theorem zv110 : zeroOf Tryz.prog 110 = some (.nilFunc) := by kernel_rfl
theorem zv111 : zeroOf Tryz.prog 111 = some (.nilFunc) := by kernel_rfl
theorem zv112 : zeroOf Tryz.prog 112 = some (.nilFunc) := by kernel_rfl
theorem zv113 : zeroOf Tryz.prog 113 = some (.slice none 0 0) := by kernel_rfl
theorem zv114 : zeroOf Tryz.prog 114 = some (.map none) := by kernel_rfl
theorem zv115 : zeroOf Tryz.prog 115 = some (.nilFunc) := by kernel_rfl
theorem zv116 : zeroOf Tryz.prog 116 = some (.pointer none) := by kernel_rfl
theorem zv119 : zeroOf Tryz.prog 119 = some (.nilFunc) := by kernel_rfl
theorem zv121 : zeroOf Tryz.prog 121 = some (.nilFunc) := by kernel_rfl
theorem zv122 : zeroOf Tryz.prog 122 = some (.map none) := by kernel_rfl
theorem zv125 : zeroOf Tryz.prog 125 = some (.nilFunc) := by kernel_rfl
theorem zv126 : zeroOf Tryz.prog 126 = some (.slice none 0 0) := by kernel_rfl
theorem zv131 : zeroOf Tryz.prog 131 = some (.nilFunc) := by kernel_rfl
theorem zv132 : zeroOf Tryz.prog 132 = some (.nilFunc) := by kernel_rfl
theorem zv133 : zeroOf Tryz.prog 133 = some (.nilFunc) := by kernel_rfl
theorem zv134 : zeroOf Tryz.prog 134 = some (.nilFunc) := by kernel_rfl
theorem zv135 : zeroOf Tryz.prog 135 = some (.nilFunc) := by kernel_rfl
theorem zv136 : zeroOf Tryz.prog 136 = some (.map none) := by kernel_rfl
theorem zv137 : zeroOf Tryz.prog 137 = some (.nilFunc) := by kernel_rfl
theorem zv138 : zeroOf Tryz.prog 138 = some (.nilFunc) := by kernel_rfl
theorem zv139 : zeroOf Tryz.prog 139 = some (.nilFunc) := by kernel_rfl
theorem zv140 : zeroOf Tryz.prog 140 = some (.nilFunc) := by kernel_rfl
theorem zv141 : zeroOf Tryz.prog 141 = some (.nilFunc) := by kernel_rfl
theorem zv142 : zeroOf Tryz.prog 142 = some (.nilFunc) := by kernel_rfl
theorem zv143 : zeroOf Tryz.prog 143 = some (.nilFunc) := by kernel_rfl
theorem zv144 : zeroOf Tryz.prog 144 = some (.nilFunc) := by kernel_rfl
theorem zv148 : zeroOf Tryz.prog 148 = some (.nilFunc) := by kernel_rfl
theorem zv149 : zeroOf Tryz.prog 149 = some (.nilFunc) := by kernel_rfl
theorem zv150 : zeroOf Tryz.prog 150 = some (.pointer none) := by kernel_rfl
theorem zv151 : zeroOf Tryz.prog 151 = some (.nilFunc) := by kernel_rfl
theorem zv152 : zeroOf Tryz.prog 152 = some (.nilFunc) := by kernel_rfl
theorem zv153 : zeroOf Tryz.prog 153 = some (.nilFunc) := by kernel_rfl
theorem zv154 : zeroOf Tryz.prog 154 = some (.nilFunc) := by kernel_rfl
theorem zv156 : zeroOf Tryz.prog 156 = some (.nilFunc) := by kernel_rfl
theorem zv157 : zeroOf Tryz.prog 157 = some (.nilFunc) := by kernel_rfl
theorem zv158 : zeroOf Tryz.prog 158 = some (.nilFunc) := by kernel_rfl
theorem zv161 : zeroOf Tryz.prog 161 = some (.nilFunc) := by kernel_rfl
theorem zv162 : zeroOf Tryz.prog 162 = some (.nilFunc) := by kernel_rfl
theorem zv163 : zeroOf Tryz.prog 163 = some (.nilFunc) := by kernel_rfl
theorem zv164 : zeroOf Tryz.prog 164 = some (.nilFunc) := by kernel_rfl
theorem zv165 : zeroOf Tryz.prog 165 = some (.nilFunc) := by kernel_rfl
theorem zv166 : zeroOf Tryz.prog 166 = some (.nilFunc) := by kernel_rfl
theorem zv167 : zeroOf Tryz.prog 167 = some (.nilFunc) := by kernel_rfl
theorem zv169 : zeroOf Tryz.prog 169 = some (.nilFunc) := by kernel_rfl
theorem zv170 : zeroOf Tryz.prog 170 = some (.nilFunc) := by kernel_rfl
theorem zv171 : zeroOf Tryz.prog 171 = some (.nilFunc) := by kernel_rfl
theorem zv172 : zeroOf Tryz.prog 172 = some (.map none) := by kernel_rfl
theorem zv174 : zeroOf Tryz.prog 174 = some (.nilFunc) := by kernel_rfl
theorem zv175 : zeroOf Tryz.prog 175 = some (.nilFunc) := by kernel_rfl
theorem zv176 : zeroOf Tryz.prog 176 = some (.nilFunc) := by kernel_rfl
theorem zv177 : zeroOf Tryz.prog 177 = some (.nilFunc) := by kernel_rfl
theorem zv179 : zeroOf Tryz.prog 179 = some (.int .u64 0) := by kernel_rfl
theorem zv183 : zeroOf Tryz.prog 183 = some (.nilFunc) := by kernel_rfl
theorem zv184 : zeroOf Tryz.prog 184 = some (.nilFunc) := by kernel_rfl
theorem zv185 : zeroOf Tryz.prog 185 = some (.nilFunc) := by kernel_rfl
theorem zv186 : zeroOf Tryz.prog 186 = some (.nilFunc) := by kernel_rfl
theorem zv192 : zeroOf Tryz.prog 192 = some (.nilFunc) := by kernel_rfl
theorem zv193 : zeroOf Tryz.prog 193 = some (.int .u32 0) := by kernel_rfl
theorem zv194 : zeroOf Tryz.prog 194 = some (.int .u8 0) := by kernel_rfl
theorem zv195 : zeroOf Tryz.prog 195 = some (.int .u8 0) := by kernel_rfl
theorem zv196 : zeroOf Tryz.prog 196 = some (.nilFunc) := by kernel_rfl
theorem zv197 : zeroOf Tryz.prog 197 = some (.pointer none) := by kernel_rfl
theorem zv198 : zeroOf Tryz.prog 198 = some (.int .i32 0) := by kernel_rfl
theorem zv199 : zeroOf Tryz.prog 199 = some (.int .i32 0) := by kernel_rfl
def vZ := And.intro zv1 (And.intro zv2 (And.intro zv3 (And.intro zv4 (And.intro zv5 (And.intro zv6 (And.intro zv9 (And.intro zv10 (And.intro zv11 (And.intro zv12 (And.intro zv15 (And.intro zv16 (And.intro zv17 (And.intro zv21 (And.intro zv22 (And.intro zv23 (And.intro zv24 (And.intro zv25 (And.intro zv26 (And.intro zv29 (And.intro zv30 (And.intro zv31 (And.intro zv32 (And.intro zv33 (And.intro zv34 (And.intro zv39 (And.intro zv40 (And.intro zv41 (And.intro zv42 (And.intro zv47 (And.intro zv48 (And.intro zv53 (And.intro zv54 (And.intro zv55 (And.intro zv56 (And.intro zv57 (And.intro zv58 (And.intro zv59 (And.intro zv60 (And.intro zv65 (And.intro zv66 (And.intro zv69 (And.intro zv70 (And.intro zv71 (And.intro zv72 (And.intro zv73 (And.intro zv74 (And.intro zv75 (And.intro zv76 (And.intro zv78 (And.intro zv79 (And.intro zv80 (And.intro zv81 (And.intro zv82 (And.intro zv83 (And.intro zv84 (And.intro zv86 (And.intro zv87 (And.intro zv88 (And.intro zv89 (And.intro zv90 (And.intro zv91 (And.intro zv92 (And.intro zv93 (And.intro zv94 (And.intro zv96 (And.intro zv98 (And.intro zv99 (And.intro zv100 (And.intro zv101 (And.intro zv102 (And.intro zv103 (And.intro zv105 (And.intro zv108 (And.intro zv109 (And.intro zv110 (And.intro zv111 (And.intro zv112 (And.intro zv113 (And.intro zv114 (And.intro zv115 (And.intro zv116 (And.intro zv119 (And.intro zv121 (And.intro zv122 (And.intro zv125 (And.intro zv126 (And.intro zv131 (And.intro zv132 (And.intro zv133 (And.intro zv134 (And.intro zv135 (And.intro zv136 (And.intro zv137 (And.intro zv138 (And.intro zv139 (And.intro zv140 (And.intro zv141 (And.intro zv142 (And.intro zv143 (And.intro zv144 (And.intro zv148 (And.intro zv149 (And.intro zv150 (And.intro zv151 (And.intro zv152 (And.intro zv153 (And.intro zv154 (And.intro zv156 (And.intro zv157 (And.intro zv158 (And.intro zv161 (And.intro zv162 (And.intro zv163 (And.intro zv164 (And.intro zv165 (And.intro zv166 (And.intro zv167 (And.intro zv169 (And.intro zv170 (And.intro zv171 (And.intro zv172 (And.intro zv174 (And.intro zv175 (And.intro zv176 (And.intro zv177 (And.intro zv179 (And.intro zv183 (And.intro zv184 (And.intro zv185 (And.intro zv186 (And.intro zv192 (And.intro zv193 (And.intro zv194 (And.intro zv195 (And.intro zv196 (And.intro zv197 (And.intro zv198 (zv199))))))))))))))))))))))))))))))))))))))))))))))))))))))))))))))))))))))))))))))))))))))))))))))))))))))))))))))))))))))))))))))))))))))))))
def Det (F : (D → Prop) → Prop) : Prop := ∃ (p : Prop) (d : D), ∀ K : D → Prop, F K ↔ (p ∧ K d)
theorem det_id (d : D) : Det fun K => K d := ⟨True, d, fun K => by simp⟩
theorem det_false : Det fun _ => False := ⟨False, default, fun K => by simp⟩
theorem det_and {p : Prop} {F : (D → Prop) → Prop} (h : p → Det F) : Det fun K => p ∧ F K := by
  by_cases hp : p
  · obtain ⟨q, d, hq⟩ := h hp
    exact ⟨q, d, fun K => by simp only [hp, true_and]; exact hq K⟩
  · exact ⟨False, default, fun K => by simp [hp]⟩
theorem det_ite {c : Prop} [Decidable c] {F G : (D → Prop) → Prop} (h : c → Det F) (h' : ¬ c → Det G) : Det fun K => if c then F K else G K := by
  by_cases hc : c
  · simpa only [if_pos hc] using h hc
  · simpa only [if_neg hc] using h' hc
theorem det_bInt (op : BinOp) (k : IntKind) (a b : Int) : Det (bInt op k a b) := by
  unfold bInt
  cases op <;> first | exact det_id _ | exact det_and fun _ => det_id _ | exact det_false
theorem det_bStr (op : BinOp) (a b : ByteArray) : Det (bStr op a b) := by
  unfold bStr
  cases op <;> first | exact det_id _ | exact det_and fun _ => det_id _ | exact det_false
theorem det_nilOp (op : BinOp) (b : Bool) : Det (nilOp op b) := by
  unfold nilOp
  cases op <;> first | exact det_id _ | exact det_false
theorem det_bNilP (P : Program) (op : BinOp) (t : TypeId) (x : D) : Det (bNilP P op t x) := by
  unfold bNilP
  split
  · exact det_nilOp _ _
  · exact det_false
theorem det_bNilS (P : Program) (op : BinOp) (t : TypeId) (x : D) : Det (bNilS P op t x) := by
  unfold bNilS
  split
  · exact det_nilOp _ _
  · exact det_false
theorem det_bNilM (P : Program) (op : BinOp) (t : TypeId) (x : D) : Det (bNilM P op t x) := by
  unfold bNilM
  split
  · exact det_nilOp _ _
  · exact det_false
theorem det_binV (P : Program) (op : BinOp) (t : TypeId) (x y : D) : Det (binV P op t x y) := by
  unfold binV
  split
  · split
    · exact det_and fun _ => det_id _
    · exact det_and fun _ => det_id _
    · exact det_and fun _ => det_bInt _ _ _ _
  · exact det_bStr _ _ _
  · refine det_and fun _ => ?_
    split
    · exact det_id _
    · exact det_id _
    · exact det_false
  · split
    · exact det_and fun _ => det_nilOp _ _
    · exact det_false
  · exact det_bNilP _ _ _ _
  · exact det_bNilS _ _ _ _
  · exact det_bNilM _ _ _ _
  · exact det_false
theorem det_unV (op : UnOp) (x : D) : Det (unV op x) := by
  unfold unV
  split
  · exact det_id _
  · exact det_id _
  · exact det_id _
  · exact det_false
theorem det_elsP (H : Heap) (sz : Nat) (x : D) (F : List (List D) → (D → Prop) → Prop) (h : ∀ els, Det (F els)) : Det fun K => elsP H sz x fun els => F els K := by
  unfold elsP
  split
  · exact det_and fun _ => h _
  · split
    · exact det_and fun _ => det_and fun _ => det_and fun _ => det_and fun _ => h _
    · exact det_false
  · exact h _
  · exact h _
  · exact det_false
theorem det_cvV (P : Program) (H : Heap) (a b : TypeId) (x : D) : Det (cvV P H a b x) := by
  unfold cvV
  split
  · split
    · exact det_id _
    · exact det_id _
    · split
      · refine det_elsP H 1 _ (fun els K => match bytesOf els with | some l => K (.val (.string (bstr l))) | none => False) fun els => ?_
        split
        · exact det_id _
        · exact det_false
      · exact det_false
    · exact det_false
  · exact det_false
theorem det_partV (P : Program) (t : TypeId) (cs : List D) (off : Nat) : Det (partV P t cs off) := by
  unfold partV
  split
  · refine det_ite (fun _ => det_id _) fun _ => ?_
    split
    · exact det_id _
    · exact det_false
  · exact det_false
theorem det_fieldV (P : Program) (t : TypeId) (x : D) (f : Nat) : Det (fieldV P t x f) := by
  unfold fieldV
  split
  · exact det_partV _ _ _ _
  · exact det_false
theorem det_faV (P : Program) (t : TypeId) (x : D) (f : Nat) : Det (faV P t x f) := by
  unfold faV
  split
  · split
    · refine det_and fun _ => ?_
      split
      · exact det_id _
      · exact det_id _
      · exact det_false
    · exact det_false
  · exact det_false
theorem det_iaV (P : Program) (H : Heap) (t : TypeId) (x ix : D) : Det (iaV P H t x ix) := by
  unfold iaV
  split
  · split
    · split
      · split
        · refine det_and fun _ => det_and fun _ => ?_
          split
          · exact det_id _
          · exact det_false
        · exact det_and fun _ => det_and fun _ => det_and fun _ => det_id _
        · exact det_false
      · exact det_false
    · split
      · refine det_and fun _ => det_and fun _ => ?_
        split
        · exact det_id _
        · exact det_id _
        · exact det_false
      · exact det_false
    · exact det_false
  · exact det_false
theorem det_ixV (P : Program) (t : TypeId) (x ix : D) : Det (ixV P t x ix) := by
  unfold ixV
  split
  · split
    · split
      · exact det_and fun _ => det_and fun _ => det_partV _ _ _ _
      · exact det_false
    · refine det_and fun _ => ?_
      split
      · exact det_id _
      · exact det_false
    · exact det_false
  · exact det_false
theorem det_ldC (ag : Bool) (sz : Nat) (cs : List D) : Det (ldC ag sz cs) := by
  unfold ldC
  refine det_ite (fun _ => det_ite (fun _ => det_id _) fun _ => det_and fun _ => det_id _) fun _ => ?_
  split
  · exact det_id _
  · exact det_false
theorem det_ldV (P : Program) (H : Heap) (t : TypeId) (x : D) : Det (ldV P H t x) := by
  unfold ldV
  split
  · split
    · exact det_ldC _ _ _
    · split
      · refine det_and fun _ => det_and fun _ => ?_
        split
        · exact det_ldC _ _ _
        · exact det_false
      · exact det_false
    · exact det_false
  · exact det_false
theorem det_slV (P : Program) (H : Heap) (t : TypeId) (x : D) (lo hi mx : Option D) : Det (slV P H t x lo hi mx) := by
  unfold slV
  split
  · split
    · split
      · split
        · exact det_and fun _ => det_and fun _ => det_and fun _ => det_and fun _ => det_id _
        · exact det_false
      · split
        · exact det_and fun _ => det_and fun _ => det_and fun _ => det_and fun _ => det_id _
        · exact det_false
      · split
        · exact det_and fun _ => det_and fun _ => det_id _
        · exact det_false
      · split
        · exact det_and fun _ => det_and fun _ => det_id _
        · exact det_false
      · split
        · exact det_and fun _ => det_and fun _ => det_and fun _ => det_and fun _ => det_id _
        · exact det_false
      · exact det_false
    · split
      · split
        · exact det_id _
        · exact det_id _
        · exact det_id _
        · exact det_id _
        · exact det_false
      · exact det_false
    · exact det_false
  · split
    · split
      · exact det_and fun _ => det_and fun _ => det_and fun _ => det_id _
      · exact det_false
    · exact det_false
  · split
    · split
      · split
        · exact det_and fun _ => det_and fun _ => det_and fun _ => det_and fun _ => det_id _
        · exact det_and fun _ => det_and fun _ => det_and fun _ => det_and fun _ => det_id _
      · exact det_false
    · exact det_false
  · exact det_false
theorem det_bdV (P : Program) (t : TypeId) (ds : List (Nat × D)) : Det (bdV P t ds) := by
  unfold bdV
  split
  · refine det_and fun _ => det_and fun _ => ?_
    split
    · exact det_id _
    · exact det_false
  · exact det_false
theorem det_lenV (P : Program) (H : Heap) (t : TypeId) (x : D) : Det (lenV P H t x) := by
  unfold lenV
  split
  · split
    · exact det_id _
    · exact det_id _
    · exact det_id _
    · exact det_id _
    · exact det_id _
    · exact det_id _
    · exact det_id _
    · split
      · exact det_id _
      · exact det_false
    · exact det_false
  · exact det_false
theorem det_minV (xs : List D) : Det (minV xs) := by
  unfold minV
  split
  · exact det_id _
  · exact det_false
theorem det_maxV (xs : List D) : Det (maxV xs) := by
  unfold maxV
  split
  · exact det_id _
  · exact det_false
theorem det_ncV (x : D) : Det (ncV x) := by
  unfold ncV
  split
  · exact det_id _
  · exact det_id _
  · exact det_id _
  · exact det_false
theorem det_exV (x : D) (i : Nat) : Det (exV x i) := by
  unfold exV
  split
  · split
    · exact det_id _
    · exact det_false
  · exact det_false
theorem elsP_le {H H' : Heap} (hle : H.le H') {sz : Nat} {x : D} {K : List (List D) → Prop} (h : elsP H sz x K) : elsP H' sz x K := by
  unfold elsP at h ⊢
  split at h
  · exact h
  · split at h
    · rename_i hb
      rw [hle _ _ hb]
      exact h
    · exact h.elim
  · exact h
  · exact h
  · exact h.elim
theorem ldV_le {P : Program} {H H' : Heap} (hle : H.le H') {t : TypeId} {x : D} {K : D → Prop} (h : ldV P H t x K) : ldV P H' t x K := by
  unfold ldV at h ⊢
  split at h
  · rename_i hT
    split at h
    · exact h
    · split at h
      · rename_i hb
        simp only [hle _ _ hb]
        exact h
      · exact h.elim
    · exact h.elim
  · exact h.elim
theorem lenV_le {P : Program} {H H' : Heap} (hle : H.le H') {t : TypeId} {x : D} {K : D → Prop} (h : lenV P H t x K) : lenV P H' t x K := by
  unfold lenV at h ⊢
  split at h
  · split at h <;> first
      | exact h
      | exact h.elim
      | skip
    split at h
    · rename_i hb
      simp only [hle _ _ hb]
      exact h
    · exact h.elim
  · exact h.elim
theorem det_lkV (P : Program) (H : Heap) (t : TypeId) (x ix : D) (ok : Bool) : Det (lkV P H t x ix ok) := by
  unfold lkV
  split
  · split
    · refine det_and fun _ => ?_
      split
      · exact det_id _
      · exact det_id _
    · exact det_false
  · exact det_false
theorem lkV_le {P : Program} {H H' : Heap} (hle : H.le H') {t : TypeId} {x ix : D} {ok : Bool} {K : D → Prop} (h : lkV P H t x ix ok K) : lkV P H' t x ix ok K := by
  unfold lkV at h ⊢
  split at h
  · split at h
    · rename_i hb hz
      simp only [hle _ _ hb, hz]
      exact h
    · exact h.elim
  · exact h.elim
theorem cvV_le {P : Program} {H H' : Heap} (hle : H.le H') {a b : TypeId} {x : D} {K : D → Prop} (h : cvV P H a b x K) : cvV P H' a b x K := by
  unfold cvV at h ⊢
  split at h
  · split at h
    · exact h
    · exact h
    · split at h
      · exact elsP_le hle h
      · exact h.elim
    · exact h.elim
  · exact h.elim
end Go.Proofs.YtgfhgeelfaalmaaGreatDoor
