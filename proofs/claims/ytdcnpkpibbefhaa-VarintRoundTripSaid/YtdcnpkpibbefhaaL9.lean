/- A program logic over descriptions of values. Part 9: slices that are made, cut, appended to. -/
import Derived.Test.YtdcnpkpibbefhaaL8
namespace Go.Proofs.Ytdcnpkpibbefhaa
open Go.RowKit
set_option linter.unusedVariables false
set_option linter.unusedSimpArgs false

def mkV (P : Program) (H : Heap) (t : TypeId) (n c : D) (K : D → Heap → Prop) : Prop :=
  match n, c, tyi P t with
  | .val (.int _ l), .val (.int _ c), some ⟨.slice e, _, _, _⟩ => (match tyi P e with
    | some ⟨_, sz, by_, some zs⟩ => zs.length = sz ∧ zs.all Value.oneCell' = true ∧ 0 ≤ l ∧ l ≤ c ∧ (by_ : Int) * c ≤ 281474976710656 ∧ c ≤ 9223372036854775807 ∧
      ∀ b, H b = none → K (.os b 0 sz 0 l.toNat) (H.upd b (.row e 0 sz (List.replicate l.toNat (zs.map .val))))
    | _ => False)
  | _, _, _ => False
theorem run_mkV {P : Program} {H : Heap} {w : World} (hH : HOk w H) {t : TypeId} {n c : D} {v u : Value} {K : D → Heap → Prop} (h : mkV P H t n c K) (hn : D.is w H.others n v) (hc : D.is w H.others c u) :
    ∃ r d' w' H', (Instr.makeSlice t v u).run P w = .ok r w' ∧ D.is w' H'.others d' r ∧ HOk w' H' ∧ Ev H w H' w' ∧ K d' H' := by
  unfold mkV at h
  split at h
  · rename_i kl l kc cc e _ _ _ hT
    have e1 := is_val hn
    have e2 := is_val hc
    subst e1 e2
    split at h
    · rename_i dE sz byE zs hE
      obtain ⟨hzl, hone, h0, hlc, hb, h63, h⟩ := h
      obtain ⟨d, i, a1, a2, a3⟩ := tyi_spec hT
      injection a3 with a3
      cases d <;> simp [tdOf] at a3
      subst a3
      obtain ⟨i', b1, b2, b3, b4, b5⟩ := run_info hE w
      simp only at b2 b3 b4
      cases hz : i'.zero with
      | none => rw [hz] at b4; cases b4
      | some z =>
        rw [hz] at b4
        simp at b4
        have hr := run_make (P := P) w t e i' z a1 b5 hz kl kc l cc h0 hlc (by rw [← b3]; exact hb) h63
        refine ⟨_, _, _, _, hr, ?_, ?_, ev_alloc _ _ hH, h w.heap.size (fresh_none hH)⟩
        · simp only [D.is]
          refine ⟨_, _, rfl, by omega, ?_⟩
          right
          refine ⟨by simp, _, e, (0, 0), heap_alloc_new w _, ?_⟩
          rw [size_madeCells, b2]
          simp
        · refine hH.alloc ⟨_, (0, 0), heap_alloc_new w _, free0 _, ?_, ?_⟩
          · rw [size_madeCells, List.length_replicate, b2, Nat.zero_add]
            exact Nat.mul_le_mul_right _ (by omega)
          · refine rowsAt_of fun j el hj => ?_
            rw [List.getElem?_replicate] at hj
            split at hj
            · rename_i hjl
              injection hj with hj
              subst hj
              refine ⟨by simp [hzl], ?_⟩
              refine cellsAt_of (cellsAll_vals zs (fun v hv => (List.all_eq_true.1 hone) v hv)) fun q v hq => ?_
              have hqz : q < sz := by have := (List.getElem?_eq_some_iff.1 hq).1; omega
              rw [cell_of_row _ _ _ _ _ _ (heap_alloc_new w _)]
              have hlt : 0 + j * sz + q < cc.toNat * i'.size := by
                rw [← b2, Nat.zero_add]
                exact mul_lt_cells (by omega) hqz
              unfold madeCells
              rw [Array.getElem?_map, Array.getElem?_range, if_pos hlt]
              have hzsz : z.cells.size = sz := by rw [← Array.length_toList, ← b4]; exact hzl
              simp only [Option.map_some]
              rw [hzsz, Nat.zero_add, Nat.add_comm, Nat.add_mul_mod_self_right, Nat.mod_eq_of_lt hqz]
              rw [b4] at hq
              rw [← hq]
              have : q < z.cells.size := by omega
              simp [this]
            · cases hj
    · exact h.elim
  · exact h.elim

/-- A bound of a slice expression. -/
def bdN (dflt : Int) : Option D → Option Int
  | none => some dflt
  | some (.val (.int _ i)) => some i
  | _ => none
def optIs (w : World) (S : Nat → Prop) (d : Option D) (v : Option Value) : Prop := match d, v with | some d, some v => D.is w S d v | none, none => True | _, _ => False
theorem bdN_spec {w : World} {S : Nat → Prop} {dflt i : Int} {d : Option D} {v : Option Value} (h : bdN dflt d = some i) (hv : optIs w S d v) :
    (d = none ∧ v = none ∧ i = dflt) ∨ ∃ k, v = some (.int k i) := by
  cases d with
  | none => cases v with
    | none => simp only [bdN] at h; injection h with h; exact .inl ⟨rfl, rfl, h.symm⟩
    | some v => exact hv.elim
  | some d => cases v with
    | none => exact hv.elim
    | some v =>
      simp only [optIs] at hv
      cases d with
      | val u =>
        have e := is_val hv
        subst e
        cases v with
        | int k n => simp only [bdN] at h; injection h with h; subst h; exact .inr ⟨k, rfl⟩
        | _ => simp [bdN] at h
      | _ => simp [bdN] at h
theorem run_bounds {P : Program} {w : World} {isSl : Bool} {len cap : Nat} {lo hi : Option Value} {l h : Int} (hl : (lo = none ∧ l = 0) ∨ ∃ k, lo = some (.int k l)) (hh : (hi = none ∧ h = len) ∨ ∃ k, hi = some (.int k h)) (h0 : 0 ≤ l) (h1 : l ≤ h) (h2 : h ≤ cap) :
    (Instr.sliceBounds isSl len cap lo hi none).run P w = .ok (l.toNat, h.toNat, cap) w := by
  have sb : ∀ (k : IntKind) (i : Int) (y : Nat) code, 0 ≤ i → i ≤ y → (Instr.sliceBound (.int k i) y code).run P w = .ok i.toNat w := fun k i y code a b => by
    unfold Instr.sliceBound
    simp only [Sem.run_bind, asIntOf, Sem.run_pure, Result.andThen]
    rw [if_pos ⟨a, b⟩]
    rfl
  have hcast : ((h.toNat : Nat) : Int) = h := Int.toNat_of_nonneg (by omega)
  have hlast : ∀ code, (match lo with | some v => Instr.sliceBound v h.toNat code | none => pure 0 : Sem Nat).run P w = .ok l.toNat w := fun code => by
    rcases hl with ⟨rfl, rfl⟩ | ⟨k, rfl⟩
    · rfl
    · exact sb k l _ _ h0 (by omega)
  unfold Instr.sliceBounds
  rcases hh with ⟨rfl, rfl⟩ | ⟨k, rfl⟩
  · rw [Int.toNat_natCast] at hlast ⊢
    simp only [Sem.run_bind, Sem.run_pure, Result.andThen, Option.isSome_none, Bool.false_eq_true, if_false]
    have := hlast .sliceB
    rcases hl with ⟨rfl, rfl⟩ | ⟨k', rfl⟩
    · rfl
    · simp only [Sem.run_bind] at this ⊢
      rw [this]
      rfl
  · simp only [Sem.run_bind, Sem.run_pure, Result.andThen, sb k h cap _ (by omega) h2, Option.isSome_none, Bool.false_eq_true, if_false]
    have := hlast .sliceB
    rcases hl with ⟨rfl, rfl⟩ | ⟨k', rfl⟩
    · rfl
    · simp only [Sem.run_bind] at this ⊢
      rw [this]
      rfl
def slV (P : Program) (H : Heap) (t : TypeId) (x : D) (lo hi mx : Option D) (K : D → Prop) : Prop :=
  match tyi P t with
  | some ⟨.slice e, _, _, _⟩ => (match tyi P e, mx with
    | some E, none => (match x with
      | .seq sz els => (match bdN 0 lo, bdN els.length hi with
        | some l, some h => sz = E.size ∧ 0 ≤ l ∧ l ≤ h ∧ h ≤ (els.length : Int) ∧ K (.seq sz ((els.take h.toNat).drop l.toNat))
        | _, _ => False)
      | .os b o sz k n => (match bdN 0 lo, bdN n hi with
        | some l, some h => sz = E.size ∧ 0 ≤ l ∧ l ≤ h ∧ h ≤ (n : Int) ∧ K (.os b o sz (k + l.toNat) (h.toNat - l.toNat))
        | _, _ => False)
      | .val (.slice none 0 0) => (match bdN 0 lo, bdN 0 hi with
        | some l, some h => l = 0 ∧ h = 0 ∧ K (.val (.slice none 0 0))
        | _, _ => False)
      | .emp => (match bdN 0 lo, bdN 0 hi with
        | some l, some h => l = 0 ∧ h = 0 ∧ K .emp
        | _, _ => False)
      | .val (.slice (some ⟨b, o, none⟩) n c) => (match bdN 0 lo, bdN n hi with
        | some l, some h => l = 0 ∧ 0 ≤ h ∧ h ≤ (n : Int) ∧ n ≤ c ∧ K (.val (.slice (some ⟨b, o, none⟩) h.toNat c))
        | _, _ => False)
      | _ => False)
    | some E, some (.val (.int _ 0)) => (match bdN 0 lo, hi with
      | some 0, some (.val (.int _ 0)) => (match x with
        | .seq _ _ | .os _ _ _ _ _ | .emp => K .emp
        | .val (.slice none _ _) => K (.val (.slice none 0 0))
        | _ => False)
      | _, _ => False)
    | _, _ => False)
  | some ⟨.string, _, _, _⟩ => (match x, mx with
    | .val (.string s), none => (match bdN 0 lo, bdN s.size hi with
      | some l, some h => 0 ≤ l ∧ l ≤ h ∧ h ≤ (s.size : Int) ∧ K (.val (.string (s.extract l.toNat h.toNat)))
      | _, _ => False)
    | _, _ => False)
  | some ⟨.array n e, _, _, _⟩ => (match tyi P e, mx, x with
    | some E, none, .rp cs => (match bdN 0 lo, bdN n hi with
      | some l, some h => E.size = 1 ∧ n ≤ cs.length ∧ 0 ≤ l ∧ l ≤ h ∧ h ≤ (n : Int) ∧ K (.seq 1 (((cs.take h.toNat).drop l.toNat).map fun c => [c]))
      | _, _ => False)
    | _, _, _ => False)
  | _ => False
theorem rowsAt_ones {w : World} {S : Nat → Prop} {b : Nat} : ∀ {cs : List D} {o : Nat}, cellsAt w S b o cs → rowsAt w S b 1 o (cs.map fun c => [c])
  | [], _, _ => by simp only [List.map_nil, rowsAt]
  | c :: cs, o, h => by
    simp only [cellsAt] at h
    simp only [List.map_cons, rowsAt, cellsAt]
    exact ⟨rfl, ⟨h.1, trivial⟩, rowsAt_ones h.2⟩
theorem run_slV {P : Program} {H : Heap} {w : World} {t : TypeId} {x : D} {lo hi mx : Option D} {v : Value} {vlo vhi vmx : Option Value} {K : D → Prop} (h : slV P H t x lo hi mx K) (hx : D.is w H.others x v)
    (hlo : optIs w H.others lo vlo) (hhi : optIs w H.others hi vhi) (hmx : optIs w H.others mx vmx) : ∃ u d, (Instr.sliceAt t v vlo vhi vmx).run P w = .ok u w ∧ D.is w H.others d u ∧ K d := by
  have low : ∀ {l : Int}, bdN 0 lo = some l → (vlo = none ∧ l = 0) ∨ ∃ k, vlo = some (.int k l) := fun hb => by
    rcases bdN_spec hb hlo with ⟨_, h1, h2⟩ | h1
    · exact .inl ⟨h1, h2⟩
    · exact .inr h1
  have high : ∀ {m h : Int}, bdN m hi = some h → (vhi = none ∧ h = m) ∨ ∃ k, vhi = some (.int k h) := fun hb => by
    rcases bdN_spec hb hhi with ⟨_, h1, h2⟩ | h1
    · exact .inl ⟨h1, h2⟩
    · exact .inr h1
  unfold slV at h
  split at h
  · rename_i e _ _ _ hT
    obtain ⟨dT, iT, a1, a2, a3⟩ := tyi_spec hT
    injection a3 with a3
    cases dT <;> simp [tdOf] at a3
    subst a3
    split at h
    · rename_i E hE
      cases vmx with
      | some _ => exact hmx.elim
      | none =>
      have key : ∀ {A : Option Addr} {n c : Nat} {l hh : Int}, ((vlo = none ∧ l = 0) ∨ ∃ k, vlo = some (.int k l)) → ((vhi = none ∧ hh = n) ∨ ∃ k, vhi = some (.int k hh)) → 0 ≤ l → l ≤ hh → hh ≤ n → n ≤ c →
          (Instr.sliceAt t (.slice A n c) vlo vhi none).run P w = .ok (.slice (if c = l.toNat then A else A.map (·.add (l.toNat * E.size))) (hh.toNat - l.toNat) (c - l.toNat)) w := fun {A n c l hh} h1 h2 h3 h4 h5 h6 => by
        unfold Instr.sliceAt
        simp only [Sem.run_bind, run_under a1, Result.andThen, Instr.slice, run_bounds (P := P) (w := w) (isSl := true) (len := n) (cap := c) h1 h2 h3 h4 (by omega), run_size hE, Sem.run_pure]
      split at h
      · rename_i sz els
        split at h
        · rename_i l hh hbl hbh
          obtain ⟨rfl, h0, h1, h2, h⟩ := h
          simp only [D.is] at hx
          obtain ⟨A, c, rfl, h3, h4⟩ := hx
          refine ⟨_, _, key (low hbl) (high hbh) h0 h1 h2 h3, ?_, h⟩
          simp only [D.is]
          have hlen : ((els.take hh.toNat).drop l.toNat).length = hh.toNat - l.toNat := by rw [List.length_drop, List.length_take]; omega
          refine ⟨_, _, by rw [hlen], by rw [hlen]; omega, ?_⟩
          rcases h4 with rfl | ⟨b, o, rfl, h5, h6, h7⟩
          · left; simp
          · by_cases hcl : c = l.toNat
            · left
              apply List.eq_nil_of_length_eq_zero
              rw [hlen]; omega
            · right
              rw [if_neg hcl]
              exact ⟨b, o + l.toNat * E.size, by rw [Option.map_some, Addr.add_lit], h5, h6, rowsAt_drop (rowsAt_take h7 _) _⟩
        · exact h.elim
      · rename_i b o sz k n
        split at h
        · rename_i l hh hbl hbh
          obtain ⟨rfl, h0, h1, h2, h⟩ := h
          simp only [D.is] at hx
          obtain ⟨A, c, rfl, h3, h4⟩ := hx
          refine ⟨_, _, key (low hbl) (high hbh) h0 h1 h2 h3, ?_, h⟩
          simp only [D.is]
          refine ⟨_, _, rfl, by omega, ?_⟩
          by_cases hcl : c = l.toNat
          · left; omega
          · right
            rcases h4 with h4 | ⟨rfl, cs, ty, fr, h5, h6⟩
            · omega
            · rw [if_neg hcl, Option.map_some, Addr.add_lit, Nat.add_assoc, ← Nat.add_mul]
              exact ⟨rfl, cs, ty, fr, h5, by rw [show k + l.toNat + (c - l.toNat) = k + c by omega]; exact h6⟩
        · exact h.elim
      · split at h
        · rename_i l hh hbl hbh
          obtain ⟨rfl, rfl, h⟩ := h
          have e1 := is_val hx
          subst e1
          refine ⟨_, _, key (n := 0) (low hbl) (high hbh) (by omega) (by omega) (by omega) (by omega), ?_, h⟩
          simp only [D.is]
          rfl
        · exact h.elim
      · split at h
        · rename_i l hh hbl hbh
          obtain ⟨rfl, rfl, h⟩ := h
          simp only [D.is] at hx
          obtain ⟨A, rfl⟩ := hx
          refine ⟨_, _, key (n := 0) (low hbl) (high hbh) (by omega) (by omega) (by omega) (by omega), ?_, h⟩
          simp only [D.is]
          exact ⟨_, rfl⟩
        · exact h.elim
      · split at h
        · rename_i l hh hbl hbh
          obtain ⟨rfl, h0, h1, h2, h⟩ := h
          have e1 := is_val hx
          subst e1
          refine ⟨_, _, key (low hbl) (high hbh) (by omega) h0 h1 h2, ?_, h⟩
          have ea : ∀ (b o : Nat), (if 0 = (0 : Int).toNat then some (⟨b, o, none⟩ : Addr) else none) = some ⟨b, o, none⟩ := fun _ _ => rfl
          simp only [D.is, Int.toNat_zero, Nat.sub_zero, Nat.zero_mul, Option.map_some, Addr.add_lit, Nat.add_zero, ite_self]
        · exact h.elim
      · exact h.elim
    · rename_i E _ _ hE
      cases vmx with
      | none => exact hmx.elim
      | some vm =>
      simp only [optIs, D.is] at hmx
      subst hmx
      split at h
      · rename_i k0 hbl
        cases vhi with
        | none => exact hhi.elim
        | some vh =>
        simp only [optIs, D.is] at hhi
        subst hhi
        have hl := low hbl
        have sb : ∀ (k : IntKind) (y : Nat) code, (Instr.sliceBound (.int k 0) y code).run P w = .ok 0 w := fun k y code => by
          unfold Instr.sliceBound
          simp only [Sem.run_bind, asIntOf, Sem.run_pure, Result.andThen]
          rw [if_pos ⟨by omega, by omega⟩]
          rfl
        have key : ∀ {km : IntKind} {A : Option Addr} {n c : Nat}, (Instr.sliceAt t (.slice A n c) vlo (some (.int k0 0)) (some (.int km 0))).run P w = .ok (.slice A 0 0) w := fun {km A n c} => by
          unfold Instr.sliceAt
          simp only [Sem.run_bind, run_under a1, Result.andThen, Instr.slice, Instr.sliceBounds, sb, Sem.run_pure]
          rcases hl with ⟨rfl, _⟩ | ⟨k', rfl⟩
          · simp only [Sem.run_pure, run_size hE]
            rfl
          · simp only [sb, Sem.run_pure, run_size hE]
            rfl
        split at h
        · simp only [D.is] at hx
          obtain ⟨A, c, rfl, _⟩ := hx
          exact ⟨_, _, key, by simp only [D.is]; exact ⟨_, rfl⟩, h⟩
        · simp only [D.is] at hx
          obtain ⟨A, c, rfl, _⟩ := hx
          exact ⟨_, _, key, by simp only [D.is]; exact ⟨_, rfl⟩, h⟩
        · simp only [D.is] at hx
          obtain ⟨A, rfl⟩ := hx
          exact ⟨_, _, key, by simp only [D.is]; exact ⟨_, rfl⟩, h⟩
        · have e1 := is_val hx
          subst e1
          exact ⟨_, _, key, by simp only [D.is], h⟩
        · exact h.elim
      · exact h.elim
    · exact h.elim
  · rename_i hT
    obtain ⟨dT, iT, a1, a2, a3⟩ := tyi_spec hT
    injection a3 with a3
    cases dT <;> simp [tdOf] at a3
    split at h
    · rename_i s
      cases vmx with
      | some _ => exact hmx.elim
      | none =>
      split at h
      · rename_i l hh hbl hbh
        obtain ⟨h0, h1, h2, h⟩ := h
        have e1 := is_val hx
        subst e1
        refine ⟨_, _, ?_, is_mk _, h⟩
        unfold Instr.sliceAt
        simp only [Sem.run_bind, run_under a1, Result.andThen, Instr.slice, Option.isSome_none, Bool.false_eq_true, if_false, run_bounds (P := P) (w := w) (isSl := false) (len := s.size) (cap := s.size) (low hbl) (high hbh) h0 h1 h2, Sem.run_pure]
      · exact h.elim
    · exact h.elim
  · rename_i n e _ _ _ hT
    obtain ⟨dT, iT, a1, a2, a3⟩ := tyi_spec hT
    injection a3 with a3
    cases dT <;> simp [tdOf] at a3
    rename_i n' e'
    obtain ⟨a3, a4⟩ := a3
    subst n' e'
    split at h
    · rename_i E cs hE
      cases vmx with
      | some _ => exact hmx.elim
      | none =>
      split at h
      · rename_i l hh hbl hbh
        obtain ⟨hE1, hn, h0, h1, h2, h⟩ := h
        simp only [D.is] at hx
        obtain ⟨b, o, rfl, h3, h4, h5⟩ := hx
        have hlen : (((cs.take hh.toNat).drop l.toNat).map fun c => [c]).length = hh.toNat - l.toNat := by rw [List.length_map, List.length_drop, List.length_take]; omega
        refine ⟨.slice (some (if n = l.toNat then ⟨b, o, none⟩ else (⟨b, o, none⟩ : Addr).add (l.toNat * E.size))) (hh.toNat - l.toNat) (n - l.toNat), _, ?_, ?_, h⟩
        · unfold Instr.sliceAt
          simp only [Sem.run_bind, run_under a1, Result.andThen, Instr.sureAddr, Sem.run_pure, run_bounds (P := P) (w := w) (isSl := false) (len := n) (cap := n) (low hbl) (high hbh) h0 h1 h2, run_size hE]
        · simp only [D.is]
          refine ⟨_, _, by rw [hlen], by rw [hlen]; omega, ?_⟩
          by_cases hcl : n = l.toNat
          · left
            apply List.eq_nil_of_length_eq_zero
            rw [hlen]; omega
          · right
            rw [if_neg hcl, hE1, Nat.mul_one]
            exact ⟨b, o + l.toNat, by rw [Addr.add_lit], h3, h4, rowsAt_ones (cellsAt_drop (cellsAt_take h5 _) _)⟩
      · exact h.elim
    · exact h.elim
  · exact h.elim
end Go.Proofs.Ytdcnpkpibbefhaa
