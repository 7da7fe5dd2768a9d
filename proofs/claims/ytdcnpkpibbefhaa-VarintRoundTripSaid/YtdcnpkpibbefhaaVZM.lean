/- Signed numbers as unsigned ones, in plain Lean. -/
import Derived.Test.YtdcnpkpibbefhaaKit
namespace Go.Proofs.Ytdcnpkpibbefhaa
def zz (n : Int) : Int := if n < 0 then -2 * n - 1 else 2 * n
def uz (u : Int) : Int := if u % 2 = 1 then -(u / 2) - 1 else u / 2
theorem zz_uz (u : Int) : zz (uz u) = u ∨ u < 0 := by
  unfold zz uz
  by_cases h0 : u < 0
  · exact .inr h0
  · left
    by_cases h : u % 2 = 1
    · rw [if_pos h, if_pos (by omega)]; omega
    · rw [if_neg h, if_neg (by omega)]; omega
theorem uz_zz (n : Int) : uz (zz n) = n := by
  unfold zz uz
  by_cases h : n < 0
  · rw [if_pos h, if_pos (by omega)]; omega
  · rw [if_neg h, if_neg (by omega)]; omega
theorem zz_range (n : Int) (h : -9223372036854775808 ≤ n ∧ n ≤ 9223372036854775807) : 0 ≤ zz n ∧ zz n ≤ 18446744073709551615 := by
  unfold zz; split <;> omega
theorem uz_range (u : Int) (h : 0 ≤ u ∧ u ≤ 18446744073709551615) : -9223372036854775808 ≤ uz u ∧ uz u ≤ 9223372036854775807 := by
  unfold uz; split <;> omega
theorem xor_ones (x : Nat) (h : x < 18446744073709551616) : x ^^^ 18446744073709551615 = 18446744073709551615 - x := by
  have e : (BitVec.ofNat 64 x ^^^ BitVec.allOnes 64).toNat = (~~~ BitVec.ofNat 64 x).toNat := by rw [BitVec.xor_allOnes]
  rw [BitVec.toNat_xor, BitVec.toNat_not, BitVec.toNat_allOnes, BitVec.toNat_ofNat, Nat.mod_eq_of_lt (by omega)] at e
  simpa using e
theorem zz_bits (n : Int) (h : -9223372036854775808 ≤ n ∧ n ≤ 9223372036854775807) :
    bits .xor .u64 (IntKind.u64.wrap (IntKind.u64.wrap n * 2 ^ min 1 64)) (IntKind.u64.wrap (n.fdiv (2 ^ min 63 64))) = zz n := by
  have e63 : ((2 : Int) ^ min 63 64) = 9223372036854775808 := by decide
  have e1 : ((2 : Int) ^ min 1 64) = 2 := by decide
  rw [e63, e1, Int.fdiv_eq_ediv_of_nonneg _ (by omega)]
  by_cases hn : n < 0
  · have h1 : IntKind.u64.wrap (IntKind.u64.wrap n * 2) = ((18446744073709551616 + 2 * n).toNat : Int) := by rw [IntKind.wrap_u64, IntKind.wrap_u64]; omega
    have h2 : IntKind.u64.wrap (n / 9223372036854775808) = ((18446744073709551615 : Nat) : Int) := by rw [IntKind.wrap_u64]; omega
    rw [h1, h2, u64_xor_nat _ _ (by omega) (by omega), xor_ones _ (by omega)]
    unfold zz; rw [if_pos hn]; omega
  · have h1 : IntKind.u64.wrap (IntKind.u64.wrap n * 2) = ((2 * n).toNat : Int) := by rw [IntKind.wrap_u64, IntKind.wrap_u64]; omega
    have h2 : IntKind.u64.wrap (n / 9223372036854775808) = ((0 : Nat) : Int) := by rw [IntKind.wrap_u64]; omega
    rw [h1, h2, u64_xor_nat _ _ (by omega) (by omega), Nat.xor_zero]
    unfold zz; rw [if_neg hn]; omega
theorem uz_bits (u : Int) (h : 0 ≤ u ∧ u ≤ 18446744073709551615) :
    bits .xor .i64 (IntKind.i64.wrap (u.fdiv (2 ^ min 1 64))) (IntKind.i64.wrap (0 - IntKind.i64.wrap (bits .and .u64 u 1))) = uz u := by
  have e1 : ((2 : Int) ^ min 1 64) = 2 := by decide
  obtain ⟨m, rfl⟩ : ∃ m : Nat, u = (m : Int) := Int.eq_ofNat_of_zero_le h.1
  have h0 : bits .and .u64 (m : Int) 1 = ((m % 2 : Nat) : Int) := by
    rw [show (1 : Int) = ((1 : Nat) : Int) from rfl, u64_and_nat _ _ (by omega) (by omega), Nat.and_one_is_mod]
  rw [e1, Int.fdiv_eq_ediv_of_nonneg _ (by omega), h0]
  have h1 : IntKind.i64.wrap ((m : Int) / 2) = ((m / 2 : Nat) : Int) := by rw [IntKind.wrap_i64]; omega
  rw [h1]
  have hb : (BitVec.ofInt 64 ((m / 2 : Nat) : Int)) = BitVec.ofNat 64 (m / 2) := BitVec.ofInt_natCast _ _
  by_cases ho : m % 2 = 1
  · have h2 : IntKind.i64.wrap (0 - IntKind.i64.wrap ((m % 2 : Nat) : Int)) = -1 := by rw [IntKind.wrap_i64, IntKind.wrap_i64]; omega
    rw [h2]
    show IntKind.i64.wrap ((BitVec.ofInt 64 ((m / 2 : Nat) : Int) ^^^ BitVec.ofInt 64 (-1)).toNat : Int) = uz m
    rw [hb, show BitVec.ofInt 64 (-1) = BitVec.allOnes 64 by decide, BitVec.xor_allOnes, BitVec.toNat_not, BitVec.toNat_ofNat, Nat.mod_eq_of_lt (by omega), IntKind.wrap_i64]
    unfold uz
    rw [if_pos (by omega)]
    omega
  · have h2 : IntKind.i64.wrap (0 - IntKind.i64.wrap ((m % 2 : Nat) : Int)) = 0 := by rw [IntKind.wrap_i64, IntKind.wrap_i64]; omega
    rw [h2]
    show IntKind.i64.wrap ((BitVec.ofInt 64 ((m / 2 : Nat) : Int) ^^^ BitVec.ofInt 64 0).toNat : Int) = uz m
    rw [hb, show BitVec.ofInt 64 0 = 0#64 by decide, BitVec.xor_zero, BitVec.toNat_ofNat, Nat.mod_eq_of_lt (by omega), IntKind.wrap_i64]
    unfold uz
    rw [if_neg (by omega)]
    omega
end Go.Proofs.Ytdcnpkpibbefhaa
