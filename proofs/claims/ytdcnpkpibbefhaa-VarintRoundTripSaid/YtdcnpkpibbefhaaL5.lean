/- A program logic over descriptions of values. Part 5: operations that compute. -/
import Derived.Test.YtdcnpkpibbefhaaL4
namespace Go.Proofs.Ytdcnpkpibbefhaa
open Go.RowKit
set_option linter.unusedVariables false

theorem eqGuard_ok {P : Program} {w : World} {op : BinOp} {t : TypeId} {x y : Operand} {a b : Value} (h : (∀ c, a ≠ .agg c) ∧ a ≠ .nilIface ∨ (∀ c, b ≠ .agg c) ∧ b ≠ .nilIface) : (eqGuard op t x y a b).run P w = .ok () w := by
  rcases h with ⟨h1, h2⟩ | ⟨h1, h2⟩
  · cases a <;> first | exact absurd rfl h2 | exact absurd rfl (h1 _) | (unfold eqGuard; split <;> rfl)
  · cases b <;> first | exact absurd rfl h2 | exact absurd rfl (h1 _) | (unfold eqGuard; split <;> first | rfl | (cases a <;> rfl))
theorem run_binV {P : Program} {w : World} {S : Nat → Prop} {op : BinOp} {t : TypeId} {x y : D} {a b : Value} {p q : Operand} {K : D → Prop} (h : binV P op t x y K) (hx : D.is w S x a) (hy : D.is w S y b) :
    ∃ u, (do eqGuard op t p q a b; binOp op t a b).run P w = .ok u w ∧ K (.val u) := by
  unfold binV at h
  split at h
  · rename_i k a' k' b'
    have e1 := is_val hx
    have e2 := is_val hy
    subst e1 e2
    have hg : (eqGuard op t p q (.int k a') (.int k' b')).run P w = .ok () w := eqGuard_ok (.inl (by simp))
    simp only [Sem.run_bind, hg, Result.andThen]
    split at h
    · have h0 : ¬ b' < 0 := by omega
      refine ⟨_, ?_, h.2⟩
      simp [binOp, Op.shift, h0]
    · have h0 : ¬ b' < 0 := by omega
      refine ⟨_, ?_, h.2⟩
      simp [binOp, Op.shift, h0]
    · obtain ⟨rfl, h⟩ := h
      exact run_bInt h
  · rename_i a' b'
    have e1 := is_val hx
    have e2 := is_val hy
    subst e1 e2
    have hg : (eqGuard op t p q (.string a') (.string b')).run P w = .ok () w := eqGuard_ok (.inl (by simp))
    simp only [Sem.run_bind, hg, Result.andThen]
    exact run_bStr h
  · rename_i a' b'
    have e1 := is_val hx
    have e2 := is_val hy
    subst e1 e2
    have hg : (eqGuard op t p q (.bool a') (.bool b')).run P w = .ok () w := eqGuard_ok (.inl (by simp))
    simp only [Sem.run_bind, hg, Result.andThen]
    obtain ⟨h0, h⟩ := h
    have hu : P.underlying t = some .bool := by
      unfold isBoolTy at h0
      split at h0
      · rename_i heq
        obtain ⟨d, i, h1, h2, h3⟩ := tyi_spec heq
        injection h3 with h3
        cases d <;> simp [tdOf] at h3
        exact h1
      · exact h0.elim
    have hr : (Op.equal t (.bool a') (.bool b')).run P w = .ok (a' == b') w := eqIn_bool 9999 hu a' b'
    have e3 : (a' == b') = decide (a' = b') := by cases a' <;> cases b' <;> rfl
    have e4 : (!decide (a' = b')) = decide (a' ≠ b') := by cases a' <;> cases b' <;> rfl
    split at h
    · exact ⟨.bool (a' == b'), by simp [binOp, hr, Result.andThen], by rw [e3]; exact h⟩
    · exact ⟨.bool (!(a' == b')), by simp [binOp, hr, Result.andThen], by rw [e3, e4]; exact h⟩
    · exact h.elim
  · have e2 := is_val hy
    subst e2
    have hg : (eqGuard op t p q a (.pointer none)).run P w = .ok () w := eqGuard_ok (.inr (by simp))
    simp only [Sem.run_bind, hg, Result.andThen]
    exact run_bNilP h hx
  · rename_i x' y' n c
    have e2 := is_val hy
    subst e2
    have hg : (eqGuard op t p q a (.slice none n c)).run P w = .ok () w := eqGuard_ok (.inr (by simp))
    simp only [Sem.run_bind, hg, Result.andThen]
    exact run_bNilS h hx
  · have e2 := is_val hy
    subst e2
    have hg : (eqGuard op t p q a (.map none)).run P w = .ok () w := eqGuard_ok (.inr (by simp))
    simp only [Sem.run_bind, hg, Result.andThen]
    exact run_bNilM h hx
  · exact h.elim

def unV (op : UnOp) (x : D) (K : D → Prop) : Prop :=
  match op, x with
  | .neg, .val (.int k n) => K (.val (.int k (k.wrap (0 - n))))
  | .xor, .val (.int k n) => K (.val (.int k (bits .xor k (if k.signed then -1 else k.max) n)))
  | .not, .val (.bool b) => K (.val (.bool (!b)))
  | _, _ => False
theorem run_unV {P : Program} {w : World} {S : Nat → Prop} {op : UnOp} {x : D} {v : Value} {K : D → Prop} (h : unV op x K) (hx : D.is w S x v) : ∃ u, (Op.unary op v).run P w = .ok u w ∧ K (.val u) := by
  unfold unV at h
  split at h
  · have e := is_val hx; subst e; exact ⟨_, rfl, h⟩
  · have e := is_val hx; subst e; exact ⟨_, rfl, h⟩
  · have e := is_val hx; subst e; exact ⟨_, rfl, h⟩
  · exact h.elim

/-- The elements of a slice. -/
def elsP (H : Heap) (sz : Nat) (x : D) (K : List (List D) → Prop) : Prop :=
  match x with
  | .seq sz' els => sz' = sz ∧ K els
  | .os b o sz' k n => (match H b with
    | some (.row _ o' sz'' els) => o' = o ∧ sz'' = sz' ∧ sz' = sz ∧ k + n ≤ els.length ∧ K ((els.drop k).take n)
    | _ => False)
  | .val (.slice none 0 _) => K []
  | .emp => K []
  | _ => False
theorem elsP_spec {H : Heap} {w : World} (hH : HOk w H) {sz : Nat} {x : D} {v : Value} {K : List (List D) → Prop} (h : elsP H sz x K) (hx : D.is w H.others x v) :
    ∃ els A c, K els ∧ v = .slice A els.length c ∧ els.length ≤ c ∧ (els = [] ∨ ∃ b o, A = some ⟨b, o, none⟩ ∧ b < w.heap.size ∧ rowsAt w H.others b sz o els) := by
  unfold elsP at h
  split at h
  · obtain ⟨rfl, h⟩ := h
    simp only [D.is] at hx
    obtain ⟨A, c, rfl, h1, h2⟩ := hx
    refine ⟨_, A, c, h, rfl, h1, ?_⟩
    rcases h2 with h2 | ⟨b, o, h3, _, h4, h5⟩
    · exact .inl h2
    · exact .inr ⟨b, o, h3, h4, h5⟩
  · split at h
    · rename_i hb
      obtain ⟨rfl, rfl, rfl, hle, h⟩ := h
      simp only [D.is] at hx
      obtain ⟨A, c, rfl, h1, h2⟩ := hx
      obtain ⟨cs, fr, h3, h4, h5, h6⟩ := hH _ _ hb
      have hl : ∀ (l : List (List D)) (k n : Nat), k + n ≤ l.length → ((l.drop k).take n).length = n := fun l k n h => by rw [List.length_take, List.length_drop]; omega
      refine ⟨_, A, c, h, by rw [hl _ _ _ hle], by rw [hl _ _ _ hle]; exact h1, ?_⟩
      rcases h2 with h2 | ⟨h2, _⟩
      · left
        apply List.eq_nil_of_length_eq_zero
        rw [hl _ _ _ hle]; omega
      · exact .inr ⟨_, _, h2, hH.lt hb, rowsAt_take (rowsAt_drop h6 _) _⟩
    · exact h.elim
  · have e := is_val hx
    subst e
    exact ⟨[], _, _, h, rfl, Nat.zero_le _, .inl rfl⟩
  · simp only [D.is] at hx
    obtain ⟨A, rfl⟩ := hx
    exact ⟨[], _, _, h, rfl, Nat.zero_le _, .inl rfl⟩
  · exact h.elim

/-- Bytes. -/
def bD (c : UInt8) : List D := [.val (.int .u8 (c.toNat : Int))]
def byteOf : List D → Option UInt8
  | [.val (.int .u8 n)] => some (UInt8.ofNat n.toNat)
  | _ => none
def bytesOf : List (List D) → Option (List UInt8)
  | [] => some []
  | e :: els => match byteOf e, bytesOf els with
    | some c, some l => some (c :: l)
    | _, _ => none
theorem byteOf_bD (c : UInt8) : byteOf (bD c) = some c := by simp [byteOf, bD]
theorem bytesOf_map (l : List UInt8) : bytesOf (l.map bD) = some l := by
  induction l with
  | nil => rfl
  | cons c l ih => simp [bytesOf, byteOf_bD, ih]
theorem byteOf_spec {e : List D} {c : UInt8} (h : byteOf e = some c) : ∃ n, e = [.val (.int .u8 n)] ∧ c = UInt8.ofNat n.toNat := by
  unfold byteOf at h
  split at h
  · injection h with h; exact ⟨_, rfl, h.symm⟩
  · cases h
theorem bytesOf_nums {w : World} {S : Nat → Prop} {b : Nat} : ∀ {els : List (List D)} {o : Nat} {l : List UInt8}, bytesOf els = some l → rowsAt w S b 1 o els →
    ∃ ns : List Int, ns.length = els.length ∧ l = ns.map (fun n => UInt8.ofNat n.toNat) ∧ ∀ i, i < ns.length → w.cell? ⟨b, o + i, none⟩ = some (.int .u8 (ns.getD i 0))
  | [], _, l, h, _ => by simp [bytesOf] at h; subst h; exact ⟨[], rfl, rfl, fun i hi => by simp at hi⟩
  | e :: els, o, l, h, hr => by
    simp only [bytesOf] at h
    split at h
    · rename_i c l' h1 h2
      injection h with h
      subst h
      simp only [rowsAt] at hr
      obtain ⟨n, rfl, rfl⟩ := byteOf_spec h1
      obtain ⟨ns, h3, h4, h5⟩ := bytesOf_nums h2 hr.2.2
      have hc := hr.2.1
      simp only [cellsAt, D.is] at hc
      obtain ⟨⟨u, hu, _, rfl⟩, _⟩ := hc
      refine ⟨n :: ns, by simp [h3], by simp [h4], fun i hi => ?_⟩
      cases i with
      | zero => exact hu
      | succ i => rw [show o + (i + 1) = o + 1 + i by omega]; simpa using h5 i (by simpa using hi)
    · cases h

def cvV (P : Program) (H : Heap) (src dst : TypeId) (x : D) (K : D → Prop) : Prop :=
  match tyi P src, tyi P dst with
  | some A, some B =>
    (match A.d, B.d, x with
    | _, .int k, .val (.int _ n) => K (.val (.int k (k.wrap n)))
    | _, .string, .val (.string s) => K (.val (.string s))
    | .slice e, .string, x => (match tyi P e with
      | some ⟨.int .u8, _, _, _⟩ => elsP H 1 x fun els => match bytesOf els with
        | some l => K (.val (.string (bstr l)))
        | none => False
      | _ => False)
    | _, _, _ => False)
  | _, _ => False
theorem run_cvV {P : Program} {H : Heap} {w : World} (hH : HOk w H) {src dst : TypeId} {x : D} {v : Value} {K : D → Prop} (h : cvV P H src dst x K) (hx : D.is w H.others x v) : ∃ u, (convert src dst v).run P w = .ok u w ∧ K (.val u) := by
  unfold cvV at h
  split at h
  · rename_i A B hA hB
    obtain ⟨dA, iA, a1, a2, rfl⟩ := tyi_spec hA
    obtain ⟨dB, iB, b1, b2, rfl⟩ := tyi_spec hB
    simp only at h
    split at h
    · rename_i e1
      have e := is_val hx
      subst e
      cases dB <;> simp [tdOf] at e1
      subst e1
      refine ⟨_, ?_, h⟩
      simp [convert, run_under a1, run_under b1, Conv.intToInt]
    · rename_i e1
      have e := is_val hx
      subst e
      cases dB <;> simp [tdOf] at e1
      refine ⟨_, ?_, h⟩
      cases dA <;> simp [convert, run_under a1, run_under b1]
    · rename_i e' e1 e2 _
      cases dB <;> simp [tdOf] at e2
      cases dA <;> simp [tdOf] at e1
      subst e1
      split at h
      · rename_i hE
        obtain ⟨dE, iE, c1, c2, h3⟩ := tyi_spec hE
        injection h3 with h3
        cases dE <;> simp [tdOf] at h3
        subst h3
        obtain ⟨els, A, c, hk, rfl, hle, hrow⟩ := elsP_spec hH h hx
        cases hl : bytesOf els with
        | none => rw [hl] at hk; exact hk.elim
        | some l =>
          rw [hl] at hk
          refine ⟨_, ?_, hk⟩
          rcases hrow with rfl | ⟨b, o, rfl, _, hr⟩
          · simp [bytesOf] at hl
            subst hl
            rcases A with _ | ⟨b, o, sp⟩
            · rw [run_convert_bytes_nil w src _ a1 c1 _ _ dst b1]; rfl
            · rw [run_convert_bytes_string w src dst _ _ _ c a1 c1 b1, List.length_nil, run_bytesToString w _ _ c [] (by simp [loadCells, loadCellsFrom])]
              rfl
          · obtain ⟨ns, h1, h2, h3⟩ := bytesOf_nums hl hr
            rw [run_convert_bytes_arg w src _ a1 c1 b o els.length c ns (by omega) (fun i hi => h3 i (by omega)) dst b1]
            have htk : ns.take els.length = ns := List.take_of_length_le (by omega)
            try rw [htk]
            have : strOfNums ns = bstr l := by
              rw [h2]
              simp only [strOfNums, bstr]
            rw [this]
      · exact h.elim
    · exact h.elim
  · exact h.elim

/-- A part of a struct or an array. -/
def partV (P : Program) (t : TypeId) (cs : List D) (off : Nat) (K : D → Prop) : Prop :=
  match tyi P t with
  | some T => if T.d.agg then K (.agg ((cs.drop off).take T.size)) else (match cs[off]? with
    | some d => K d
    | none => False)
  | none => False
theorem run_partV {P : Program} {w : World} {S : Nat → Prop} {t : TypeId} {cs : List D} {vs : List Value} {off : Nat} {K : D → Prop} (h : partV P t cs off K) (hx : cellsAll w S cs vs) : ∃ u d, (Go.part t ⟨vs⟩ off).run P w = .ok u w ∧ D.is w S d u ∧ K d := by
  unfold partV at h
  split at h
  · rename_i T hT
    split at h
    · rename_i hag
      refine ⟨.agg ((⟨vs⟩ : Array Value).extract off (off + T.size)), _, ?_, ?_, h⟩
      · unfold Go.part
        simp only [Sem.run_bind, run_isAgg hT, hag, Result.andThen, if_true, run_size hT]
        rfl
      · simp only [D.is]
        exact ⟨((vs.drop off).take T.size), by simp [List.extract_eq_take_drop, Nat.add_sub_cancel_left], cellsAll_take _ (cellsAll_drop _ hx)⟩
    · rename_i hag
      split at h
      · rename_i d hd
        obtain ⟨v, h1, _, h2⟩ := cellsAll_get hx off d hd
        refine ⟨v, d, ?_, h2, h⟩
        have h3 : (⟨vs⟩ : Array Value)[off]? = some v := by simpa using h1
        unfold Go.part
        simp only [Sem.run_bind, run_isAgg hT, hag, Result.andThen, h3]
        rfl
      · exact h.elim
  · exact h.elim
def fieldsOf (P : Program) (t : TypeId) : List (Nat × TypeId) :=
  match tyi P t with
  | some ⟨.struct fs, _, _, _⟩ => fs
  | _ => []
theorem fieldsOf_spec {P : Program} {t : TypeId} {f off : Nat} {ft : TypeId} (h : (fieldsOf P t)[f]? = some (off, ft)) : ∃ fs fld, P.underlying t = some (.struct fs) ∧ fs[f]? = some fld ∧ fld.offset = off ∧ fld.type = ft := by
  unfold fieldsOf at h
  split at h
  · rename_i hT
    obtain ⟨d, i, h1, h2, h3⟩ := tyi_spec hT
    injection h3 with h3
    cases d <;> simp [tdOf] at h3
    rename_i fields
    subst h3
    rw [List.getElem?_map] at h
    cases hf : fields.toList[f]? with
    | none => rw [hf] at h; simp at h
    | some fld =>
      rw [hf] at h
      simp at h
      exact ⟨_, fld, h1, by simpa using hf, h.1, h.2⟩
  · simp at h
def fieldV (P : Program) (t : TypeId) (x : D) (f : Nat) (K : D → Prop) : Prop :=
  match x, (fieldsOf P t)[f]? with
  | .agg cs, some (off, ft) => partV P ft cs off K
  | _, _ => False
theorem run_fieldV {P : Program} {w : World} {S : Nat → Prop} {t : TypeId} {x : D} {v : Value} {f : Nat} {K : D → Prop} (h : fieldV P t x f K) (hx : D.is w S x v) : ∃ u d, (Instr.field t v f).run P w = .ok u w ∧ D.is w S d u ∧ K d := by
  unfold fieldV at h
  split at h
  · rename_i cs off ft hf
    obtain ⟨fs, fld, h1, h2, rfl, rfl⟩ := fieldsOf_spec hf
    simp only [D.is] at hx
    obtain ⟨vs, rfl, hx⟩ := hx
    obtain ⟨u, d, h3, h4, h5⟩ := run_partV h hx
    refine ⟨u, d, ?_, h4, h5⟩
    unfold Instr.field
    simp only [Sem.run_bind, run_under h1, Result.andThen, h2, asAgg, Sem.run_pure]
    exact h3
  · exact h.elim
def faV (P : Program) (t : TypeId) (x : D) (f : Nat) (K : D → Prop) : Prop :=
  match (fieldsOf P t)[f]? with
  | some (off, ft) => (match tyi P ft with
    | some T => T.size ≠ 0 ∧ (match x with
      | .ep b o sz i k => K (.ep b o sz i (k + off))
      | .rp cs => K (.rp (cs.drop off))
      | _ => False)
    | none => False)
  | none => False
theorem run_faV {P : Program} {w : World} {S : Nat → Prop} {t : TypeId} {x : D} {v : Value} {f : Nat} {K : D → Prop} (h : faV P t x f K) (hx : D.is w S x v) : ∃ u d, (Instr.fieldAt t v f).run P w = .ok u w ∧ D.is w S d u ∧ K d := by
  unfold faV at h
  split at h
  · rename_i off ft hf
    obtain ⟨fs, fld, h1, h2, rfl, rfl⟩ := fieldsOf_spec hf
    split at h
    · rename_i T hT
      obtain ⟨hsz, h⟩ := h
      have key : ∀ a : Addr, (Instr.fieldAt t (.pointer (some a)) f).run P w = .ok (.pointer (some (a.add fld.offset))) w := fun a => by
        unfold Instr.fieldAt
        simp only [Sem.run_bind, run_under h1, Result.andThen, h2, Instr.sureAddr, Sem.run_pure, fieldPlace, run_size hT]
        rw [if_neg hsz]
        rfl
      split at h
      · simp only [D.is] at hx
        subst hx
        refine ⟨_, _, key _, ?_, h⟩
        simp only [D.is]
        rw [Addr.add_lit, Nat.add_assoc]
      · simp only [D.is] at hx
        obtain ⟨b, o, rfl, h3, h4, h5⟩ := hx
        refine ⟨_, _, key _, ?_, h⟩
        simp only [D.is]
        exact ⟨b, o + fld.offset, by rw [Addr.add_lit], h3, h4, cellsAt_drop h5 _⟩
      · exact h.elim
    · exact h.elim
  · exact h.elim
/-- The address of an element. -/
def iaV (P : Program) (H : Heap) (t : TypeId) (x ix : D) (K : D → Prop) : Prop :=
  match ix, tyi P t with
  | .val (.int _ i), some T => (match T.d with
    | .slice e => (match tyi P e with
      | some E => (match x with
        | .seq sz els => sz = E.size ∧ 0 ≤ i ∧ (match els[i.toNat]? with
          | some el => K (.rp el)
          | none => False)
        | .os b o sz k n => sz = E.size ∧ 0 ≤ i ∧ i < (n : Int) ∧ K (.ep b o sz (k + i.toNat) 0)
        | _ => False)
      | none => False)
    | .array n e => (match tyi P e with
      | some E => 0 ≤ i ∧ i < (n : Int) ∧ (match x with
        | .ep b o sz j k => K (.ep b o sz j (k + i.toNat * E.size))
        | .rp cs => K (.rp (cs.drop (i.toNat * E.size)))
        | _ => False)
      | none => False)
    | _ => False)
  | _, _ => False
theorem run_iaV {P : Program} {H : Heap} {w : World} {t : TypeId} {x ix : D} {v u : Value} {K : D → Prop} (h : iaV P H t x ix K) (hx : D.is w H.others x v) (hi : D.is w H.others ix u) : ∃ r d, (Instr.indexAt t v u).run P w = .ok r w ∧ D.is w H.others d r ∧ K d := by
  unfold iaV at h
  split at h
  · rename_i k i T hT
    have e := is_val hi
    subst e
    obtain ⟨d, inf, h1, h2, rfl⟩ := tyi_spec hT
    cases d <;> simp only [tdOf] at h <;> try exact h.elim
    · rename_i e
      split at h
      · rename_i E hE
        have key : ∀ (a : Addr) (n c : Nat), 0 ≤ i → i < (n : Int) → (Instr.indexAt t (.slice (some a) n c) (.int k i)).run P w = .ok (.pointer (some (a.add (i.toNat * E.size)))) w := fun a n c h0 h1' => by
          unfold Instr.indexAt
          simp only [Sem.run_bind, asIntOf, Sem.run_pure, Result.andThen, run_under h1]
          rw [if_pos ⟨h0, h1'⟩]
          simp only [Sem.run_bind, run_size hE, Result.andThen, Sem.run_pure]
        split at h
        · rename_i sz els
          obtain ⟨rfl, h0, h⟩ := h
          split at h
          · rename_i el hel
            simp only [D.is] at hx
            obtain ⟨A, c, rfl, h3, h4⟩ := hx
            have hlt : i.toNat < els.length := (List.getElem?_eq_some_iff.1 hel).1
            rcases h4 with h4 | ⟨b, o, rfl, h5, h6, h7⟩
            · subst h4; simp at hlt
            · refine ⟨_, _, key _ _ _ h0 (by omega), ?_, h⟩
              simp only [D.is]
              exact ⟨b, o + i.toNat * E.size, by rw [Addr.add_lit], h5, h6, (rowsAt_get h7 _ _ hel).2⟩
          · exact h.elim
        · rename_i b o sz k' n
          obtain ⟨rfl, h0, h3, h⟩ := h
          simp only [D.is] at hx
          obtain ⟨A, c, rfl, h4, h5⟩ := hx
          rcases h5 with h5 | ⟨rfl, _⟩
          · omega
          · refine ⟨_, _, key _ _ _ h0 h3, ?_, h⟩
            simp only [D.is]
            rw [Addr.add_lit, Nat.add_mul]
            simp only [Nat.add_zero, Nat.add_assoc]
        · exact h.elim
      · exact h.elim
    · rename_i n e
      split at h
      · rename_i E hE
        obtain ⟨h0, h3, h⟩ := h
        have key : ∀ (a : Addr), (Instr.indexAt t (.pointer (some a)) (.int k i)).run P w = .ok (.pointer (some (a.add (i.toNat * E.size)))) w := fun a => by
          unfold Instr.indexAt
          simp only [Sem.run_bind, asIntOf, Sem.run_pure, Result.andThen, run_under h1, Instr.sureAddr]
          rw [if_pos ⟨h0, h3⟩]
          simp only [Sem.run_bind, run_size hE, Result.andThen, Sem.run_pure]
        split at h
        · simp only [D.is] at hx
          subst hx
          refine ⟨_, _, key _, ?_, h⟩
          simp only [D.is]
          rw [Addr.add_lit, Nat.add_assoc]
        · simp only [D.is] at hx
          obtain ⟨b, o, rfl, h4, h5, h6⟩ := hx
          refine ⟨_, _, key _, ?_, h⟩
          simp only [D.is]
          exact ⟨b, _, by rw [Addr.add_lit], h4, h5, cellsAt_drop h6 _⟩
        · exact h.elim
      · exact h.elim
  · exact h.elim
/-- An element of an array or a string. -/
def ixV (P : Program) (t : TypeId) (x ix : D) (K : D → Prop) : Prop :=
  match ix, tyi P t with
  | .val (.int _ i), some T => (match T.d, x with
    | .array n e, .agg cs => (match tyi P e with
      | some E => 0 ≤ i ∧ i < (n : Int) ∧ partV P e cs (i.toNat * E.size) K
      | none => False)
    | .string, .val (.string s) => 0 ≤ i ∧ (match s.data.toList[i.toNat]? with
      | some c => K (.val (.int .u8 (c.toNat : Int)))
      | none => False)
    | _, _ => False)
  | _, _ => False
theorem run_ixV {P : Program} {w : World} {S : Nat → Prop} {t : TypeId} {x ix : D} {v u : Value} {K : D → Prop} (h : ixV P t x ix K) (hx : D.is w S x v) (hi : D.is w S ix u) : ∃ r d, (Instr.index t v u).run P w = .ok r w ∧ D.is w S d r ∧ K d := by
  unfold ixV at h
  split at h
  · rename_i k i T hT
    have e := is_val hi
    subst e
    obtain ⟨d, inf, h1, h2, rfl⟩ := tyi_spec hT
    simp only at h
    split at h
    · rename_i n e cs e1
      cases d <;> simp [tdOf] at e1
      obtain ⟨rfl, rfl⟩ := e1
      split at h
      · rename_i E hE
        obtain ⟨h0, h3, h⟩ := h
        simp only [D.is] at hx
        obtain ⟨vs, rfl, hx⟩ := hx
        obtain ⟨r, d, h4, h5, h6⟩ := run_partV h hx
        refine ⟨r, d, ?_, h5, h6⟩
        unfold Instr.index
        simp only [Sem.run_bind, asIntOf, Sem.run_pure, Result.andThen, run_under h1]
        rw [if_pos ⟨h0, h3⟩]
        simp only [Sem.run_bind, run_size hE, Result.andThen]
        exact h4
      · exact h.elim
    · rename_i s e1
      cases d <;> simp [tdOf] at e1
      obtain ⟨h0, h⟩ := h
      have e := is_val hx
      subst e
      split at h
      · rename_i c hc
        refine ⟨_, _, ?_, is_mk _, h⟩
        have h3 : s[i.toNat]? = some c := by
          have hlt := (List.getElem?_eq_some_iff.1 hc).1
          have hlt' : i.toNat < s.size := by rw [Array.length_toList] at hlt; exact hlt
          have := (List.getElem?_eq_some_iff.1 hc).2
          rw [getElem?_pos s i.toNat hlt', ← this]
          rfl
        unfold Instr.index
        simp only [Sem.run_bind, asIntOf, Sem.run_pure, Result.andThen, run_under h1]
        rw [if_pos h0, h3]
        rfl
      · exact h.elim
    · exact h.elim
  · exact h.elim
end Go.Proofs.Ytdcnpkpibbefhaa
