/- Numbers with a variable length in plain Lean. No program in sight. -/
import Derived.WalkKit
import Derived.Lib.BitFns
namespace Go.Proofs.Ytdcnpkpibbefhaa

/-- The encoding, with as many bytes as k allows. -/
def putF : Nat → Nat → List UInt8
  | 0, _ => []
  | k + 1, n => if n < 128 then [UInt8.ofNat n] else UInt8.ofNat (n % 128 + 128) :: putF k (n / 128)
def put (n : Nat) : List UInt8 := putF 10 n
theorem putF_more (k : Nat) : ∀ m n, n < 128 ^ k → k ≤ m → 0 < k → putF k n = putF m n := by
  induction k with
  | zero => intro m n _ _ h; omega
  | succ k ih =>
    intro m n hn hm _
    obtain ⟨m, rfl⟩ : ∃ m', m = m' + 1 := ⟨m - 1, by omega⟩
    simp only [putF]
    by_cases h : n < 128
    · rw [if_pos h, if_pos h]
    · rw [if_neg h, if_neg h]
      congr 1
      have hk : 0 < k := by
        rcases k with _ | k
        · simp at hn; omega
        · omega
      exact ih m (n / 128) (by rw [Nat.pow_succ] at hn; omega) (by omega) hk
theorem put_small (n : Nat) (h : n < 128) : put n = [UInt8.ofNat n] := by unfold put; simp only [putF]; rw [if_pos h]
theorem put_step (n : Nat) (h : 128 ≤ n) (hn : n < 18446744073709551616) : put n = UInt8.ofNat (n % 128 + 128) :: put (n / 128) := by
  have e : putF 9 (n / 128) = put (n / 128) := putF_more 9 10 (n / 128) (by omega) (by omega) (by omega)
  show putF 10 n = _
  rw [← e]
  simp only [putF]
  rw [if_neg (by omega)]
theorem putF_length (k : Nat) : ∀ n, n < 128 ^ k → 0 < k → 1 ≤ (putF k n).length ∧ (putF k n).length ≤ k := by
  induction k with
  | zero => intro n _ h; omega
  | succ k ih =>
    intro n hn _
    simp only [putF]
    split
    · simp
    · have hk : 0 < k := by
        rcases k with _ | k
        · simp at hn; omega
        · omega
      have := ih (n / 128) (by rw [Nat.pow_succ] at hn; omega) hk
      simp; omega
theorem put_length (n : Nat) (hn : n < 18446744073709551616) : 1 ≤ (put n).length ∧ (put n).length ≤ 10 := putF_length 10 n (by omega) (by omega)

/-- The length of the encoding is what Size computes. -/
def sizeN (n : Nat) : Nat := (Lib.bitLen (n ||| 1) + 6) / 7
theorem or_one_half (n : Nat) : (n ||| 1) / 128 = n / 128 := by
  have h := Nat.shiftRight_or_distrib (a := n) (b := 1) (i := 7)
  simpa [Nat.shiftRight_eq_div_pow] using h
theorem or_one_lt (n k : Nat) (hn : n < 2 ^ k) (hk : 1 ≤ k) : n ||| 1 < 2 ^ k := Nat.or_lt_two_pow hn (by
  have : 2 ^ 1 ≤ 2 ^ k := Nat.pow_le_pow_right (by omega) hk
  omega)
theorem or_one_ge (n : Nat) : n ≤ n ||| 1 ∧ 1 ≤ n ||| 1 := ⟨Nat.left_le_or, Nat.right_le_or⟩
theorem bitLen_pos (n : Nat) (h : 1 ≤ n) (hn : n < 2 ^ 64) : 1 ≤ Lib.bitLen n := by
  rw [Lib.bitLen_half n (by omega) hn]; omega
/-- Bits of numbers above 127: seven more than of their 128th. -/
theorem bitLen_128 (n : Nat) (h : 128 ≤ n) (hn : n < 2 ^ 64) : Lib.bitLen n = 7 + Lib.bitLen (n / 128) := Lib.bitLen_shift 7 n h hn
theorem bitLen_or (n : Nat) (h : 2 ≤ n) (hn : n < 2 ^ 64) : Lib.bitLen (n ||| 1) = Lib.bitLen n := by
  have h2 : (n ||| 1) / 2 = n / 2 := by
    have h := Nat.shiftRight_or_distrib (a := n) (b := 1) (i := 1)
    simpa [Nat.shiftRight_eq_div_pow] using h
  rw [Lib.bitLen_half (n ||| 1) (by have := or_one_ge n; omega) (or_one_lt n 64 hn (by omega)), Lib.bitLen_half n (by omega) hn, h2]
theorem sizeN_small (n : Nat) (h : n < 128) : sizeN n = 1 := by
  unfold sizeN
  have h1 := Lib.bitLen_le (n ||| 1) 7 (by omega) (or_one_lt n 7 (by omega) (by omega))
  have h2 := bitLen_pos (n ||| 1) (or_one_ge n).2 (or_one_lt n 64 (by omega) (by omega))
  omega
theorem sizeN_step (n : Nat) (h : 128 ≤ n) (hn : n < 18446744073709551616) : sizeN n = 1 + sizeN (n / 128) := by
  unfold sizeN
  rw [bitLen_or n (by omega) (by omega), bitLen_128 n h (by omega)]
  by_cases h2 : 2 ≤ n / 128
  · rw [bitLen_or (n / 128) h2 (by omega)]; omega
  · have : n / 128 = 1 := by omega
    rw [this]
    have e1 : Lib.bitLen 1 = 1 := by decide
    have e2 : Lib.bitLen (1 ||| 1) = 1 := by decide
    rw [e1, e2]
theorem sizeN_put (k : Nat) : ∀ n, n < 128 ^ k → n < 18446744073709551616 → sizeN n = (put n).length := by
  induction k with
  | zero => intro n h _; have : n = 0 := by simpa using h
            subst this; decide
  | succ k ih =>
    intro n h hn
    by_cases hs : n < 128
    · rw [sizeN_small n hs, put_small n hs]; rfl
    · rw [sizeN_step n (by omega) hn, put_step n (by omega) hn, ih (n / 128) (by rw [Nat.pow_succ] at h; omega) (by omega), List.length_cons]
      omega
theorem size_put (n : Nat) (hn : n < 18446744073709551616) : sizeN n = (put n).length := sizeN_put 10 n (by omega) hn

/-- Decoding: the number so far, the count of bytes so far; (number, count, error). -/
def dec : Nat → Nat → List UInt8 → Nat × Nat × Nat
  | _, _, [] => (0, 0, 4)
  | k, n, c :: l =>
    if k = 9 ∧ 1 < c.toNat then (0, 0, 6)
    else if c.toNat = 0 ∧ 0 < k then (0, 0, 5)
    else if c.toNat < 128 then (n + c.toNat * 128 ^ k, k + 1, 0)
    else dec (k + 1) (n + (c.toNat % 128) * 128 ^ k) l
/-- What Get answers. -/
def getR (l : List UInt8) (at_ : Int) : Nat × Int × Nat :=
  if at_ < 0 ∨ (l.length : Int) < at_ then (0, 0, 2)
  else let r := dec 0 0 (l.drop at_.toNat); if r.2.2 = 0 then (r.1, at_ + r.2.1, 0) else (0, 0, r.2.2)
end Go.Proofs.Ytdcnpkpibbefhaa
