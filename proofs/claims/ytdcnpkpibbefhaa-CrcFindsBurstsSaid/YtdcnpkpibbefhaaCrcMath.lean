/- The checksum CRC-32 in plain Lean: one bit of the register, a byte, a string; linearity; bursts. No program in sight. -/
import Derived.WalkKit
namespace Go.Proofs.Ytdcnpkpibbefhaa

/-- One bit of the register. -/
def Z (x : BitVec 32) : BitVec 32 := (x >>> 1) ^^^ (if x.getLsbD 0 then 0xedb88320#32 else 0#32)
def Zn : Nat → BitVec 32 → BitVec 32
  | 0, x => x
  | n + 1, x => Z (Zn n x)
def b32 (c : UInt8) : BitVec 32 := BitVec.ofNat 32 c.toNat
/-- The register behind a string of bytes. -/
def crcS (s : BitVec 32) (l : List UInt8) : BitVec 32 := l.foldl (fun s c => Zn 8 (s ^^^ b32 c)) s
/-- Update. -/
def crcU (s : BitVec 32) (l : List UInt8) : BitVec 32 := ~~~ crcS (~~~ s) l

theorem lsb0 (x : BitVec 32) : x.getLsbD 0 = decide (x.toNat % 2 = 1) := by
  simp [BitVec.getLsbD, Nat.testBit_zero]
theorem Z_even (x : BitVec 32) (h : ¬ x.toNat % 2 = 1) : (Z x).toNat = x.toNat / 2 := by
  unfold Z
  rw [lsb0, decide_eq_false h]
  simp [Nat.shiftRight_eq_div_pow]
theorem Z_odd (x : BitVec 32) (h : x.toNat % 2 = 1) : Z x = (x >>> 1) ^^^ 0xedb88320#32 := by
  unfold Z
  rw [lsb0, decide_eq_true h]
  simp
theorem shr1 (x : BitVec 32) : (x >>> 1).toNat = x.toNat / 2 := by simp [Nat.shiftRight_eq_div_pow]
theorem crcS_append (s : BitVec 32) (l m : List UInt8) : crcS s (l ++ m) = crcS (crcS s l) m := by simp [crcS]
theorem crcS_snoc (s : BitVec 32) (l : List UInt8) (c : UInt8) : crcS s (l ++ [c]) = Zn 8 (crcS s l ^^^ b32 c) := by simp [crcS]
theorem crcU_append (s : BitVec 32) (l m : List UInt8) : crcU s (l ++ m) = crcU (crcU s l) m := by simp [crcU, crcS_append]

theorem Z_xor (a b : BitVec 32) : Z (a ^^^ b) = Z a ^^^ Z b := by
  apply BitVec.eq_of_getLsbD_eq
  intro i hi
  simp only [Z, BitVec.getLsbD_xor, BitVec.getLsbD_ushiftRight]
  cases a.getLsbD 0 <;> cases b.getLsbD 0 <;> simp <;> (try cases a.getLsbD (1 + i) <;> cases b.getLsbD (1 + i) <;> cases (3988292384#32).getLsbD i <;> rfl)
theorem Zn_xor (n : Nat) (a b : BitVec 32) : Zn n (a ^^^ b) = Zn n a ^^^ Zn n b := by
  induction n with
  | zero => rfl
  | succ n ih => simp [Zn, ih, Z_xor]
theorem Zn_Z (n : Nat) (x : BitVec 32) : Zn n (Z x) = Z (Zn n x) := by
  induction n with
  | zero => rfl
  | succ n ih => simp [Zn, ih]
theorem Zn_add (m n : Nat) (x : BitVec 32) : Zn (m + n) x = Zn m (Zn n x) := by
  induction m with
  | zero => simp [Zn]
  | succ m ih => rw [Nat.add_right_comm]; simp [Zn, ih]
theorem Z_zero : Z 0#32 = 0#32 := by decide
theorem Zn_zero (n : Nat) : Zn n 0#32 = 0#32 := by
  induction n with
  | zero => rfl
  | succ n ih => simp [Zn, ih, Z_zero]
/-- The low bits gone, the register only moves. -/
theorem Zn_high (k : Nat) : ∀ y : Nat, y * 2 ^ k < 4294967296 → (Zn k (BitVec.ofNat 32 (y * 2 ^ k))).toNat = y := by
  induction k with
  | zero => intro y h; simp [Zn]; omega
  | succ k ih =>
    intro y h
    have h2 : y * 2 ^ (k + 1) = y * 2 ^ k * 2 := by rw [Nat.pow_succ, Nat.mul_assoc]
    have e : Z (BitVec.ofNat 32 (y * 2 ^ (k + 1))) = BitVec.ofNat 32 (y * 2 ^ k) := by
      apply BitVec.eq_of_toNat_eq
      rw [Z_even]
      · simp only [BitVec.toNat_ofNat]; omega
      · simp only [BitVec.toNat_ofNat]; omega
    have : Zn (k + 1) (BitVec.ofNat 32 (y * 2 ^ (k + 1))) = Zn k (BitVec.ofNat 32 (y * 2 ^ k)) := by
      rw [← e, Zn_Z]; rfl
    rw [this]
    exact ih y (by omega)
/-- The byte step by the table: the low byte through the register, the rest moved. -/
theorem byte_step (x : BitVec 32) : Zn 8 (BitVec.ofNat 32 (x.toNat % 256)) ^^^ (x >>> 8) = Zn 8 x := by
  have hx := x.isLt
  have hsplit : x = BitVec.ofNat 32 (x.toNat % 256) ^^^ BitVec.ofNat 32 (x.toNat / 256 * 2 ^ 8) := by
    apply BitVec.eq_of_getLsbD_eq
    intro i hi
    rw [BitVec.getLsbD_xor]
    simp only [BitVec.getLsbD_ofNat, hi, decide_true, Bool.true_and]
    rw [show (256 : Nat) = 2 ^ 8 by rfl, Nat.testBit_mod_two_pow, Nat.testBit_mul_two_pow, Nat.testBit_div_two_pow]
    rw [BitVec.getLsbD]
    by_cases h8 : i < 8
    · simp [h8, show ¬ 8 ≤ i by omega]
    · simp [h8, show 8 ≤ i by omega, show i - 8 + 8 = i by omega]
  have hhigh : Zn 8 (BitVec.ofNat 32 (x.toNat / 256 * 2 ^ 8)) = x >>> 8 := by
    apply BitVec.eq_of_toNat_eq
    rw [Zn_high 8 (x.toNat / 256) (by omega)]
    simp [Nat.shiftRight_eq_div_pow]
  conv => rhs; rw [hsplit, Zn_xor, hhigh]
/-- The bytes of a word, the least one first. -/
def le1 (i : Nat) (x : BitVec 32) : UInt8 := UInt8.ofNat (x.toNat / 256 ^ i % 256)
def leN : Nat → BitVec 32 → List UInt8
  | 0, _ => []
  | n + 1, x => leN n x ++ [le1 n x]
theorem leN_length (n : Nat) (x : BitVec 32) : (leN n x).length = n := by
  induction n with
  | zero => rfl
  | succ n ih => simp [leN, ih]
/-- A string with its checksum behind it. -/
def withCrc (l : List UInt8) : List UInt8 := l ++ leN 4 (crcU 0#32 l)
theorem withCrc_length (l : List UInt8) : (withCrc l).length = l.length + 4 := by simp [withCrc, leN_length]
/-- Whether a string ends with the checksum of what is before. -/
def checkB (l : List UInt8) : Bool := decide (4 ≤ l.length) && decide (withCrc (l.take (l.length - 4)) = l)
end Go.Proofs.Ytdcnpkpibbefhaa
