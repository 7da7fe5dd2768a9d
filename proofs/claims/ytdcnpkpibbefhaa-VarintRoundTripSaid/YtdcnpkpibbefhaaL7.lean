/- A program logic over descriptions of values. Part 7: structs and slices that are built, cut, appended to. -/
import Derived.Test.YtdcnpkpibbefhaaL6
import Derived.Laws.Append
namespace Go.Proofs.Ytdcnpkpibbefhaa
open Go.RowKit
set_option linter.unusedVariables false

/-- The parts of a struct or an array, laid over its zero. -/
def bldD (place : Nat → Option (Nat × Nat)) : List D → List (Nat × D) → Option (List D)
  | cs, [] => some cs
  | cs, (i, d) :: rest =>
    match place i, d.cells with
    | some (off, size), some c => if c.length = size ∧ off + c.length ≤ cs.length then bldD place (putAt cs off c) rest else none
    | _, _ => none
theorem foldl_set (off : Nat) : ∀ (vs : List Value) (j : Nat) (cs : Array Value), off + j + vs.length ≤ cs.size →
    ((vs.zipIdx j).foldl (fun cs (x : Value × Nat) => cs.setIfInBounds (off + x.2) x.1) cs).toList = cs.toList.take (off + j) ++ vs ++ cs.toList.drop (off + j + vs.length)
  | [], j, cs, h => by simp
  | v :: vs, j, cs, h => by
    simp only [List.zipIdx_cons, List.foldl_cons]
    rw [foldl_set off vs (j + 1) _ (by simp at h ⊢; omega)]
    have hlt : off + j < cs.toList.length := by simp at h ⊢; omega
    simp only [Array.toList_setIfInBounds, List.length_cons]
    have e1 : (cs.toList.set (off + j) v).take (off + (j + 1)) = cs.toList.take (off + j) ++ [v] := by
      rw [show off + (j + 1) = off + j + 1 by omega, List.take_add_one, List.getElem?_set_self hlt]
      rw [List.take_set_of_le (by omega)]
      rfl
    have e2 : (cs.toList.set (off + j) v).drop (off + (j + 1) + vs.length) = cs.toList.drop (off + j + (vs.length + 1)) := by
      rw [List.drop_set_of_lt (by omega)]
      congr 1
      omega
    rw [e1, e2]
    simp
theorem fill_one (off : Nat) (v : Value) (cs : Array Value) (h : off + v.cells.size ≤ cs.size) :
    (v.cells.zipIdx.foldl (fun cs (x : Value × Nat) => cs.setIfInBounds (off + x.2) x.1) cs).toList = cs.toList.take off ++ v.cells.toList ++ cs.toList.drop (off + v.cells.size) := by
  have := foldl_set off v.cells.toList 0 cs (by simpa using h)
  rw [← Array.foldl_toList]
  simpa using this
def partsIs (w : World) (S : Nat → Prop) : List (Nat × D) → List (Nat × Value) → Prop
  | [], vs => vs = []
  | (i, d) :: ds, vs => ∃ v us, vs = (i, v) :: us ∧ D.is w S d v ∧ partsIs w S ds us
theorem fill_bld {w : World} {S : Nat → Prop} {place : Nat → Option (Nat × Nat)} : ∀ {ds : List (Nat × D)} {vs : List (Nat × Value)} {cs r : List D} {us : Array Value}, partsIs w S ds vs → bldD place cs ds = some r → cellsAll w S cs us.toList →
    ∃ us', Instr.fill place us vs = some us' ∧ cellsAll w S r us'.toList
  | [], vs, cs, r, us, h, hb, hc => by
    simp only [partsIs] at h
    subst h
    simp only [bldD] at hb
    injection hb with hb
    subst hb
    exact ⟨us, rfl, hc⟩
  | (i, d) :: ds, vs, cs, r, us, h, hb, hc => by
    simp only [partsIs] at h
    obtain ⟨v, vs', rfl, h1, h2⟩ := h
    simp only [bldD] at hb
    split at hb
    · rename_i off size c hp hdc
      split at hb
      · rename_i hle
        have hu := D.cells_is h1 hdc
        have hl := cellsAll_length hu
        have hul := cellsAll_length hc
        have e1 : v.cells.toList.length = v.cells.size := Array.length_toList
        have e2 : us.toList.length = us.size := Array.length_toList
        simp only [Instr.fill, hp]
        have hn : ¬ (decide (v.cells.size ≠ size) || decide (off + v.cells.size > us.size)) = true := by
          simp; omega
        rw [if_neg hn]
        refine fill_bld h2 hb ?_
        have := fill_one off v us (by omega)
        rw [show (v.cells.zipIdx.foldl (fun cs (x : Value × Nat) => match x with | (c, j) => cs.setIfInBounds (off + j) c) us) = v.cells.zipIdx.foldl (fun cs (x : Value × Nat) => cs.setIfInBounds (off + x.2) x.1) us from rfl, this]
        unfold putAt
        rw [show off + c.length = off + v.cells.size by omega]
        exact cellsAll_append (cellsAll_append (cellsAll_take _ hc) hu) (cellsAll_drop _ hc)
      · cases hb
    · cases hb
/-- Where the fields of a struct, the elements of an array lie. -/
def placesOf (P : Program) (t : TypeId) : Nat → Option (Nat × Nat) :=
  match tyi P t with
  | some ⟨.struct fs, _, _, _⟩ => fun i => match fs[i]? with
    | some (off, ft) => (match tyi P ft with
      | some T => some (off, T.size)
      | none => none)
    | none => none
  | some ⟨.array _ e, _, _, _⟩ => fun i => match tyi P e with
    | some E => some (i * E.size, E.size)
    | none => none
  | _ => fun _ => none
def allSized (P : Program) (t : TypeId) : Bool :=
  match tyi P t with
  | some ⟨.struct fs, _, _, _⟩ => fs.all fun f => (tyi P f.2).isSome
  | some ⟨.array _ e, _, _, _⟩ => (tyi P e).isSome
  | _ => false
def zerosOf (P : Program) (t : TypeId) : List D :=
  match tyi P t with
  | some ⟨_, _, _, some zs⟩ => zs.map .val
  | _ => []
def bdV (P : Program) (t : TypeId) (ds : List (Nat × D)) (K : D → Prop) : Prop :=
  match tyi P t with
  | some ⟨_, _, _, some zs⟩ => zs.all Value.oneCell' = true ∧ allSized P t = true ∧ (match bldD (placesOf P t) (zs.map .val) ds with
    | some cs => K (.agg cs)
    | none => False)
  | _ => False
theorem fill_ext {p q : Nat → Option (Nat × Nat)} : ∀ {vs : List (Nat × Value)} {us : Array Value}, (∀ x ∈ vs, p x.1 = q x.1) → Instr.fill p us vs = Instr.fill q us vs
  | [], _, _ => rfl
  | (i, v) :: vs, us, h => by
    simp only [Instr.fill]
    rw [← h (i, v) (by simp)]
    cases hp : p i with
    | none => rfl
    | some x =>
      obtain ⟨off, size⟩ := x
      simp only
      split
      · rfl
      · exact fill_ext fun x hx => h x (by simp [hx])
theorem mapM_ok {P : Program} {w : World} {α β : Type} (f : α → Sem β) (g : α → β) : ∀ (l : List α), (∀ x ∈ l, (f x).run P w = .ok (g x) w) → (l.mapM f).run P w = .ok (l.map g) w
  | [], _ => rfl
  | x :: l, h => by
    rw [List.mapM_cons]
    simp only [Sem.run_bind, h x (by simp), Result.andThen, mapM_ok f g l (fun y hy => h y (by simp [hy])), Sem.run_pure, List.map_cons]
theorem run_bdV {P : Program} {w : World} {S : Nat → Prop} {t : TypeId} {ds : List (Nat × D)} {vs : Array (Nat × Value)} {K : D → Prop} (h : bdV P t ds K) (hx : partsIs w S ds vs.toList) :
    ∃ u d, (Instr.build t vs).run P w = .ok u w ∧ D.is w S d u ∧ K d := by
  unfold bdV at h
  split at h
  · rename_i dd _ _ zs hT
    obtain ⟨h1, hall, h⟩ := h
    split at h
    · rename_i cs hcs
      obtain ⟨z, h2, h3⟩ := run_zero hT rfl w
      have hz : cellsAll w S (zs.map .val) z.cells.toList := by rw [h3]; exact cellsAll_vals zs (fun v hv => (List.all_eq_true.1 h1) v hv)
      obtain ⟨us, h4, h5⟩ := fill_bld hx hcs hz
      refine ⟨.agg us, .agg cs, ?_, by simp only [D.is]; exact ⟨us.toList, by simp, h5⟩, h⟩
      obtain ⟨d, i, a1, a2, a3⟩ := tyi_spec hT
      injection a3 with a3
      unfold Instr.build
      simp only [Sem.run_bind, h2, Result.andThen, run_under a1]
      cases d with
      | struct fs =>
        simp only [tdOf] at a3
        subst a3
        have hpl : (fs.mapM fun f => (do pure (f.offset, ← sizeOf f.type) : Sem (Nat × Nat))).run P w = .ok (fs.map fun f => (f.offset, P.cellsOf f.type)) w := by
          rw [Array.mapM_eq_mapM_toList]
          have := mapM_ok (P := P) (w := w) (fun f : Field => (do pure (f.offset, ← sizeOf f.type) : Sem (Nat × Nat))) (fun f => (f.offset, P.cellsOf f.type)) fs.toList (fun f hf => by
            have hs : (tyi P f.type).isSome = true := by
              unfold allSized at hall
              rw [hT] at hall
              simp only [List.all_map, List.all_eq_true] at hall
              exact hall f hf
            cases hft : tyi P f.type with
            | none => rw [hft] at hs; cases hs
            | some T =>
              obtain ⟨i', b1, b2, b3, b4, b5⟩ := run_info hft w
              simp only [Sem.run_bind, run_size hft, Result.andThen, Sem.run_pure, Program.cellsOf, b5, b2]
              rfl)
          simp only [map_eq_pure_bind, Sem.run_bind, this, Result.andThen, Sem.run_pure]
          congr 1
          exact Array.ext' (by simp)
        simp only [hpl, Sem.run_bind, Result.andThen]
        have e : Instr.fill (fun i => (fs.map fun f => (f.offset, P.cellsOf f.type))[i]?) z.cells vs.toList = Instr.fill (placesOf P t) z.cells vs.toList := by
          refine fill_ext fun x _ => ?_
          unfold placesOf
          rw [hT]
          simp only [List.getElem?_map, Array.getElem?_map, Array.getElem?_toList]
          cases hf : fs[x.1]? with
          | none => rfl
          | some f =>
            have hs : (tyi P f.type).isSome = true := by
              unfold allSized at hall
              rw [hT] at hall
              simp only [List.all_map, List.all_eq_true] at hall
              exact hall f (by rw [Array.mem_toList_iff]; exact Array.mem_of_getElem? hf)
            simp only [Option.map_some]
            cases hft : tyi P f.type with
            | none => rw [hft] at hs; cases hs
            | some T =>
              obtain ⟨i', b1, b2, b3, b4, b5⟩ := run_info hft w
              simp only [Program.cellsOf, b5, b2]
              rfl
        rw [e, h4]
        rfl
      | array n el =>
        cases hE : tyi P el with
        | none =>
          exfalso
          unfold allSized at hall
          rw [hT, a3] at hall
          simp only [tdOf, hE] at hall
          cases hall
        | some E =>
          simp only [Sem.run_bind, run_size hE, Result.andThen]
          have e : Instr.fill (fun i => some (i * E.size, E.size)) z.cells vs.toList = Instr.fill (placesOf P t) z.cells vs.toList := by
            refine fill_ext fun x _ => ?_
            unfold placesOf
            rw [hT, a3]
            simp only [tdOf, hE]
          rw [e, h4]
          rfl
      | _ =>
        exfalso
        unfold allSized at hall
        rw [hT, a3] at hall
        cases hall
    · exact h.elim
  · exact h.elim
end Go.Proofs.Ytdcnpkpibbefhaa
