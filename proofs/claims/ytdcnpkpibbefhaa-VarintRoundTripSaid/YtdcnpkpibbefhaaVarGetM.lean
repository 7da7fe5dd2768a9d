/- What the rounds of varint.Get come to, in plain Lean. -/
import Derived.Test.YtdcnpkpibbefhaaVarIter
import Derived.Test.YtdcnpkpibbefhaaVarGetR
namespace Go.Proofs.Ytdcnpkpibbefhaa
open Go.RowKit Go.Shelf
/-- One round's key and byte. -/
structure Ent where
  k : Nat
  c : UInt8
  hk : k < 281474976710656
def ent (bs : List UInt8) (j : Nat) : Ent := ⟨j % 281474976710656, bs.getD j 0, Nat.mod_lt _ (by decide)⟩
def Ent.bad9 (p : Ent) : Prop := p.k = 9 ∧ 1 < p.c.toNat
def Ent.bad0 (p : Ent) : Prop := p.c.toNat = 0 ∧ 0 < p.k
def Ent.goes (p : Ent) : Prop := ¬ p.bad9 ∧ ¬ p.bad0 ∧ 128 ≤ p.c.toNat
def shv (k c : Nat) : Int := (((c % 128) * 2 ^ min (7 * k) 64 % 18446744073709551616 : Nat) : Int)
def accS (n : Int) (p : Ent) : Int := bits .or .u64 n (shv p.k p.c.toNat)
def accG (pre : List Ent) : Int := pre.foldl accS 0
theorem accG_snoc (pre : List Ent) (p : Ent) : accG (pre ++ [p]) = accS (accG pre) p := by simp [accG]
set_option maxRecDepth 50000 in
theorem and127 (c : UInt8) : bits .and .u8 (c.toNat : Int) 127 = ((c.toNat % 128 : Nat) : Int) := by
  have h := c.toNat_lt
  have : ∀ n : Fin 256, bits .and .u8 ((n.val : Nat) : Int) 127 = ((n.val % 128 : Nat) : Int) := by decide
  exact this ⟨c.toNat, by omega⟩
theorem shl_shv (k c : Nat) : IntKind.u64.wrap (((c % 128 : Nat) : Int) * 2 ^ min (7 * (k : Int)).toNat 64) = shv k c := by
  have e : (7 * (k : Int)).toNat = 7 * k := by omega
  rw [e]
  unfold shv
  have e2 : (((c % 128 : Nat) : Int) * 2 ^ min (7 * k) 64) = (((c % 128) * 2 ^ min (7 * k) 64 : Nat) : Int) := by simp
  rw [e2]
  generalize (c % 128) * 2 ^ min (7 * k) 64 = m
  simp [IntKind.wrap, IntKind.bits, IntKind.signed]
theorem u64_m (c : Nat) : IntKind.u64.wrap ((c % 128 : Nat) : Int) = ((c % 128 : Nat) : Int) := by
  have : c % 128 < 128 := Nat.mod_lt _ (by omega)
  generalize c % 128 = m at *
  simp [IntKind.wrap, IntKind.bits, IntKind.signed]
  omega
/-- The outcome of the last round. -/
def Ends (a : Nat) (n : Int) (p : Ent) (x y z : Int) : Prop :=
  (p.bad9 ∧ x = 0 ∧ y = 0 ∧ z = 6) ∨ (¬ p.bad9 ∧ p.bad0 ∧ x = 0 ∧ y = 0 ∧ z = 5) ∨ (¬ p.bad9 ∧ ¬ p.bad0 ∧ p.c.toNat < 128 ∧ x = accS n p ∧ y = a + p.k + 1 ∧ z = 0)
theorem or_add (n m k : Nat) (hn : n < 2 ^ k) : n ||| m * 2 ^ k = n + m * 2 ^ k := by
  have h := Nat.shiftLeft_add_eq_or_of_lt hn m
  rw [Nat.shiftLeft_eq] at h
  rw [Nat.or_comm, ← h, Nat.add_comm]
theorem p128 (k : Nat) : 128 ^ k = 2 ^ (7 * k) := by rw [Nat.pow_mul]
theorem accS_step (n k : Nat) (c : UInt8) (hk : k < 281474976710656) (h9 : k ≤ 9) (hc : k = 9 → c.toNat ≤ 1) (hn : n < 128 ^ k) :
    accS (n : Int) ⟨k, c, hk⟩ = ((n + (c.toNat % 128) * 128 ^ k : Nat) : Int) := by
  have hp := p128 k
  have hm : min (7 * k) 64 = 7 * k := by omega
  have hb : (c.toNat % 128) * 128 ^ k < 18446744073709551616 := by
    rcases Nat.lt_or_ge k 9 with h | h
    · have h1 : 128 ^ k ≤ 128 ^ 8 := Nat.pow_le_pow_right (by omega) (by omega)
      have h2 : c.toNat % 128 < 128 := Nat.mod_lt _ (by omega)
      calc (c.toNat % 128) * 128 ^ k ≤ 128 * 128 ^ 8 := Nat.mul_le_mul (by omega) h1
        _ < 18446744073709551616 := by decide
    · have : k = 9 := by omega
      have h1 := hc this
      subst this
      have : c.toNat % 128 ≤ 1 := by omega
      calc (c.toNat % 128) * 128 ^ 9 ≤ 1 * 128 ^ 9 := Nat.mul_le_mul this (Nat.le_refl _)
        _ < 18446744073709551616 := by decide
  have hn2 : n < 18446744073709551616 := by
    have h1 : 128 ^ k ≤ 128 ^ 9 := Nat.pow_le_pow_right (by omega) h9
    have h2 : (128 : Nat) ^ 9 < 18446744073709551616 := by decide
    omega
  unfold accS shv
  simp only
  rw [hm, ← hp, Nat.mod_eq_of_lt hb, u64_or_nat n _ hn2 hb, hp, or_add _ _ _ (by rw [← hp]; exact hn)]
theorem dec_pre (bs : List UInt8) (j : Nat) (hj : j ≤ bs.length) (h : ∀ i, i < j → (ent bs i).goes) :
    j ≤ 9 ∧ ∃ n : Nat, accG (upto (ent bs) j) = (n : Int) ∧ n < 128 ^ j ∧ dec 0 0 bs = dec j n (bs.drop j) := by
  induction j with
  | zero => exact ⟨by omega, 0, by simp [upto, accG], by simp, by simp⟩
  | succ j ih =>
    obtain ⟨h9, n, h1, h2, h3⟩ := ih (by omega) (fun i hi => h i (by omega))
    have hg := h j (by omega)
    have hjl : j < bs.length := by omega
    have e1 : (ent bs j).k = j := Nat.mod_eq_of_lt (by omega)
    have e2 : (ent bs j).c = bs[j] := by simp [ent, List.getD, hjl]
    obtain ⟨g1, g2, g3⟩ := hg
    unfold Ent.bad9 at g1
    unfold Ent.bad0 at g2
    rw [e1, e2] at g1 g2
    rw [e2] at g3
    have hlt : j ≠ 9 := fun e => g1 ⟨e, by omega⟩
    have hent : ent bs j = ⟨j, bs[j], by omega⟩ := by
      have : ∀ p q : Ent, p.k = q.k → p.c = q.c → p = q := by
        rintro ⟨a, b, c⟩ ⟨a', b', c'⟩ rfl rfl; rfl
      exact this _ _ e1 e2
    refine ⟨by omega, n + (bs[j].toNat % 128) * 128 ^ j, ?_, ?_, ?_⟩
    · rw [upto_succ, accG_snoc, h1, hent]
      exact accS_step n j _ _ h9 (fun e => absurd e hlt) h2
    · have : bs[j].toNat % 128 ≤ 127 := by omega
      have h4 : (bs[j].toNat % 128) * 128 ^ j ≤ 127 * 128 ^ j := Nat.mul_le_mul_right _ this
      rw [Nat.pow_succ]; omega
    · rw [h3, drop_cons bs j hjl]
      simp only [dec]
      rw [if_neg g1, if_neg g2, if_neg (by omega)]
theorem upto_mem (bs : List UInt8) (k : Nat) (h : ∀ p ∈ upto (ent bs) k, p.goes) (i : Nat) (hi : i < k) : (ent bs i).goes := h _ (by simp only [upto, List.mem_map, List.mem_range]; exact ⟨i, hi, rfl⟩)
theorem getR_in (l : List UInt8) (a : Nat) (hal : a ≤ l.length) : getR l (a : Int) = (if (dec 0 0 (l.drop a)).2.2 = 0 then ((dec 0 0 (l.drop a)).1, (a : Int) + (dec 0 0 (l.drop a)).2.1, 0) else (0, 0, (dec 0 0 (l.drop a)).2.2)) := by
  unfold getR
  rw [if_neg (by omega), Int.toNat_natCast]
theorem get_done (l : List UInt8) (a : Nat) (bs : List UInt8) (hbs : l.drop a = bs) (hal : a ≤ l.length) (ys : List Ent)
    (hS : ∃ k, k ≤ bs.length ∧ ys = upto (ent bs) k ∧ (k = bs.length ∨ ∃ j, k = j + 1 ∧ (bs.getD j 0).toNat < 128)) (h : ∀ p ∈ ys, p.goes) : getR l (a : Int) = (0, 0, 4) := by
  obtain ⟨k, hk, rfl, hS⟩ := hS
  have hk2 : k = bs.length := by
    rcases hS with h1 | ⟨j, rfl, h1⟩
    · exact h1
    · have := (upto_mem bs _ h j (by omega)).2.2
      exact absurd h1 (by simp only [ent] at this; omega)
  subst hk2
  obtain ⟨_, n, _, _, h3⟩ := dec_pre bs bs.length (Nat.le_refl _) (fun i hi => upto_mem bs _ h i hi)
  rw [getR_in l a hal, hbs, h3, List.drop_length]
  simp [dec]
theorem get_stop (l : List UInt8) (a : Nat) (bs : List UInt8) (hbs : l.drop a = bs) (hal : a ≤ l.length) (pre : List Ent)
    (hS : ∃ k, k ≤ bs.length ∧ pre = upto (ent bs) k) (ini : List Ent) (last : Ent) (e : pre = ini ++ [last]) (h : ∀ p ∈ ini, p.goes) (x y z : Int) (he : Ends a (accG ini) last x y z) :
    ((getR l (a : Int)).1 : Int) = x ∧ (getR l (a : Int)).2.1 = y ∧ ((getR l (a : Int)).2.2 : Int) = z := by
  obtain ⟨k, hk, rfl⟩ := hS
  obtain ⟨k', rfl⟩ : ∃ k', k = k' + 1 := by
    cases k with
    | zero => simp [upto] at e
    | succ k' => exact ⟨k', rfl⟩
  rw [upto_succ] at e
  obtain ⟨rfl, e5⟩ := List.append_inj' e rfl
  obtain rfl : ent bs k' = last := by simpa using e5
  have hkl : k' < bs.length := by omega
  obtain ⟨h9, n, h1, h2, h3⟩ := dec_pre bs k' (by omega) (fun i hi => upto_mem bs _ h i hi)
  have e1 : (ent bs k').k = k' := Nat.mod_eq_of_lt (by omega)
  have e2 : (ent bs k').c = bs[k'] := by simp [ent, List.getD, hkl]
  have hent : ent bs k' = ⟨k', bs[k'], by omega⟩ := by
    have : ∀ p q : Ent, p.k = q.k → p.c = q.c → p = q := by
      rintro ⟨a, b, c⟩ ⟨a', b', c'⟩ rfl rfl; rfl
    exact this _ _ e1 e2
  rw [h1, hent] at he
  unfold Ends Ent.bad9 Ent.bad0 at he
  simp only at he
  rw [getR_in l a hal, hbs]
  rcases he with ⟨g, rfl, rfl, rfl⟩ | ⟨g1, g2, rfl, rfl, rfl⟩ | ⟨g1, g2, g3, rfl, rfl, rfl⟩
  · have hd : dec 0 0 bs = (0, 0, 6) := by rw [h3, drop_cons bs k' hkl]; simp only [dec]; rw [if_pos g]
    rw [hd]; simp
  · have hd : dec 0 0 bs = (0, 0, 5) := by rw [h3, drop_cons bs k' hkl]; simp only [dec]; rw [if_neg g1, if_pos g2]
    rw [hd]; simp
  · have hd : dec 0 0 bs = (n + bs[k'].toNat * 128 ^ k', k' + 1, 0) := by rw [h3, drop_cons bs k' hkl]; simp only [dec]; rw [if_neg g1, if_neg g2, if_pos g3]
    rw [hd, accS_step n k' _ _ h9 (fun e => by have : ¬ 1 < bs[k'].toNat := fun h => g1 ⟨e, h⟩; omega) h2, if_pos rfl, Nat.mod_eq_of_lt g3]
    refine ⟨rfl, ?_, rfl⟩
    simp; omega
end Go.Proofs.Ytdcnpkpibbefhaa
