/- Decoding and encoding are inverse: plain mathematics of chapter 1. -/
import Derived.Test.YtdcnpkpibbefhaaVarM
namespace Go.Proofs.Ytdcnpkpibbefhaa
theorem p64 (k : Nat) (h : k + 1 ≤ 9) : 2 ^ (64 - 7 * k) = 128 * 2 ^ (64 - 7 * (k + 1)) := by
  rw [show 64 - 7 * k = 7 + (64 - 7 * (k + 1)) by omega, Nat.pow_add]
theorem p64_le (k : Nat) (h : k ≤ 9) : 2 ^ (64 - 7 * k) ≤ 18446744073709551616 := Nat.pow_le_pow_right (n := 2) (j := 64) (by omega) (by omega)
theorem p64_ge (k : Nat) (h : k ≤ 8) : 128 ≤ 2 ^ (64 - 7 * k) := Nat.pow_le_pow_right (n := 2) (i := 7) (by omega) (by omega)
theorem dec_acc : ∀ (l : List UInt8) (k n m j : Nat), k ≤ 9 → dec k n l = (m, j, 0) →
    ∃ (x : Nat) (r : List UInt8), l = put x ++ r ∧ m = n + x * 128 ^ k ∧ j = k + (put x).length ∧ x < 2 ^ (64 - 7 * k) ∧ (0 < k → 0 < x)
  | [], k, n, m, j, _, h => by simp [dec] at h
  | c :: l, k, n, m, j, hk, h => by
    unfold dec at h
    by_cases h1 : k = 9 ∧ 1 < c.toNat
    · rw [if_pos h1] at h; simp at h
    rw [if_neg h1] at h
    by_cases h2 : c.toNat = 0 ∧ 0 < k
    · rw [if_pos h2] at h; simp at h
    rw [if_neg h2] at h
    by_cases h3 : c.toNat < 128
    · rw [if_pos h3] at h
      simp only [Prod.mk.injEq, and_true] at h
      obtain ⟨rfl, rfl⟩ := h
      refine ⟨c.toNat, l, by rw [put_small _ h3]; simp, rfl, by rw [put_small _ h3]; rfl, ?_, by omega⟩
      by_cases h9 : k = 9
      · subst h9; simp; omega
      · exact Nat.lt_of_lt_of_le h3 (p64_ge k (by omega))
    · rw [if_neg h3] at h
      have hk8 : k ≤ 8 := by omega
      obtain ⟨x, r, rfl, rfl, rfl, hx, h0⟩ := dec_acc l (k + 1) _ m j (by omega) h
      have h0 := h0 (by omega)
      have hc := c.toNat_lt
      have hb : c.toNat % 128 + 128 * x < 2 ^ (64 - 7 * k) := by rw [p64 k (by omega)]; omega
      have hb2 := p64_le k (by omega)
      have hput : put (c.toNat % 128 + 128 * x) = c :: put x := by
        rw [put_step _ (by omega) (by omega)]
        congr 1
        · rw [show (c.toNat % 128 + 128 * x) % 128 + 128 = c.toNat by omega]; exact UInt8.ofNat_toNat
        · congr 1; omega
      refine ⟨c.toNat % 128 + 128 * x, r, by rw [hput]; rfl, ?_, by rw [hput, List.length_cons]; omega, hb, by omega⟩
      rw [Nat.pow_succ, Nat.add_mul, Nat.add_assoc]
      congr 2
      rw [Nat.mul_comm (128 ^ k), ← Nat.mul_assoc, Nat.mul_comm x]
theorem dec_put : ∀ (f x k n : Nat) (r : List UInt8), x < 128 ^ f → k ≤ 9 → x < 2 ^ (64 - 7 * k) → (0 < k → 0 < x) → dec k n (put x ++ r) = (n + x * 128 ^ k, k + (put x).length, 0) := by
  intro f
  induction f with
  | zero =>
    intro x k n r hf hk hx h0
    have hx0 : x = 0 := by simpa using hf
    subst hx0
    have hk0 : k = 0 := by omega
    subst hk0
    simp [put_small, dec]
  | succ f ih =>
    intro x k n r hf hk hx h0
    by_cases h : x < 128
    · rw [put_small x h]
      have e : (UInt8.ofNat x).toNat = x := by rw [UInt8.toNat_ofNat']; omega
      simp only [List.cons_append, dec, e, List.length_singleton]
      rw [if_neg (by rintro ⟨rfl, h2⟩; simp at hx; omega), if_neg (by omega), if_pos h]
    · have hk8 : k ≤ 8 := by
        by_cases h9 : k = 9
        · subst h9; simp at hx; omega
        · omega
      have h64 := p64_le k hk
      rw [put_step x (by omega) (by omega)]
      have e : (UInt8.ofNat (x % 128 + 128)).toNat = x % 128 + 128 := by rw [UInt8.toNat_ofNat']; omega
      simp only [List.cons_append, dec, e, List.length_cons]
      rw [if_neg (by omega), if_neg (by omega), if_neg (by omega)]
      have hp := p64 k (by omega)
      rw [ih (x / 128) (k + 1) _ r (by rw [Nat.pow_succ] at hf; omega) (by omega) (by omega) (by omega)]
      have e2 : (x % 128 + 128) % 128 = x % 128 := by omega
      rw [e2]
      refine Prod.ext ?_ (Prod.ext (by simp; omega) rfl)
      simp only
      have e3 : x * 128 ^ k = (x % 128) * 128 ^ k + (x / 128) * 128 ^ (k + 1) := by
        rw [Nat.pow_succ, Nat.mul_comm (128 ^ k), ← Nat.mul_assoc, ← Nat.add_mul]
        congr 1; omega
      omega
theorem dec_cut : ∀ (f x k n i : Nat), x < 128 ^ f → k ≤ 9 → x < 2 ^ (64 - 7 * k) → i < (put x).length → dec k n ((put x).take i) = (0, 0, 4) := by
  intro f
  induction f with
  | zero =>
    intro x k n i hf hk hx hi
    have hx0 : x = 0 := by simpa using hf
    subst hx0
    rw [put_small 0 (by omega)] at hi ⊢
    have : i = 0 := by simpa using hi
    subst this
    rfl
  | succ f ih =>
    intro x k n i hf hk hx hi
    cases i with
    | zero => rfl
    | succ i =>
      by_cases h : x < 128
      · rw [put_small x h] at hi; simp at hi
      · have hk8 : k ≤ 8 := by
          by_cases h9 : k = 9
          · subst h9; simp at hx; omega
          · omega
        have h64 := p64_le k hk
        rw [put_step x (by omega) (by omega), List.length_cons] at hi
        rw [put_step x (by omega) (by omega)]
        have e : (UInt8.ofNat (x % 128 + 128)).toNat = x % 128 + 128 := by rw [UInt8.toNat_ofNat']; omega
        simp only [List.take_succ_cons, dec, e]
        rw [if_neg (by omega), if_neg (by omega), if_neg (by omega)]
        have hp := p64 k (by omega)
        exact ih (x / 128) (k + 1) _ i (by rw [Nat.pow_succ] at hf; omega) (by omega) (by omega) (by omega)
theorem getR_acc {l : List UInt8} {n : Nat} {k : Int} (h : getR l 0 = (n, k, 0)) : ∃ r, l = put n ++ r ∧ k = (put n).length ∧ n < 18446744073709551616 := by
  unfold getR at h
  rw [if_neg (by omega)] at h
  simp only [Int.toNat_zero, List.drop_zero, Int.zero_add] at h
  obtain ⟨⟨a, b, c⟩, hd⟩ : ∃ x, dec 0 0 l = x := ⟨_, rfl⟩
  rw [hd] at h
  simp only at h
  by_cases hc : c = 0
  · subst hc
    rw [if_pos rfl] at h
    obtain ⟨x, r, rfl, rfl, rfl, hx, _⟩ := dec_acc l 0 0 a b (by omega) hd
    simp at h
    obtain ⟨rfl, rfl⟩ := h
    exact ⟨r, rfl, rfl, hx⟩
  · rw [if_neg hc] at h
    simp only [Prod.mk.injEq] at h
    exact absurd h.2.2 hc
theorem getR_err {l : List UInt8} {a : Int} {n : Nat} {k : Int} {e : Nat} (h : getR l a = (n, k, e)) (he : e ≠ 0) : n = 0 ∧ k = 0 := by
  unfold getR at h
  split at h
  · simp only [Prod.mk.injEq] at h; exact ⟨h.1.symm, h.2.1.symm⟩
  · simp only at h
    split at h
    · simp only [Prod.mk.injEq] at h; exact absurd h.2.2.symm he
    · simp only [Prod.mk.injEq] at h; exact ⟨h.1.symm, h.2.1.symm⟩
theorem getR_put (pre r : List UInt8) (n : Nat) (hn : n < 18446744073709551616) : getR (pre ++ (put n ++ r)) pre.length = (n, (pre.length : Int) + (put n).length, 0) := by
  unfold getR
  rw [if_neg (by simp; omega), Int.toNat_natCast, List.drop_left]
  rw [dec_put 10 n 0 0 r (by omega) (by omega) hn (by omega)]
  simp
theorem getR_cut (n i : Nat) (hn : n < 18446744073709551616) (hi : i < (put n).length) : getR ((put n).take i) 0 = (0, 0, 4) := by
  unfold getR
  rw [if_neg (by omega)]
  simp only [Int.toNat_zero, List.drop_zero]
  rw [dec_cut 10 n 0 0 i (by omega) (by omega) hn hi]
  rfl
end Go.Proofs.Ytdcnpkpibbefhaa
