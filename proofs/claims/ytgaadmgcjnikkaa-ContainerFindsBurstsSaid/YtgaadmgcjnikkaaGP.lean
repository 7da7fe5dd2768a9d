/- Lemmas and contracts of functions, several texts in one: CrcMath CrcBurstM CrcFlipM. -/
import Derived.WalkKit
/- The checksum CRC-32 in plain Lean: one bit of the register, a byte, a string; linearity; bursts. No program in sight. -/
namespace Go.Proofs.Ytgaadmgcjnikkaa

/-- One bit of the register. -/
def Z (x : BitVec 32) : BitVec 32 := (x >>> 1) ^^^ (if x.getLsbD 0 then 0xedb88320#32 else 0#32)
def Zn : Nat → BitVec 32 → BitVec 32
  | 0, x => x
  | n + 1, x => Z (Zn n x)
def b32 (c : UInt8) : BitVec 32 := BitVec.ofNat 32 c.toNat
/-- The register behind a string of bytes. -/
def crcS (s : BitVec 32) (l : List UInt8) : BitVec 32 := l.foldl (fun s c => Zn 8 (s ^^^ b32 c)) s
/-- Update. -/
def crcU (s : BitVec 32) (l : List UInt8) : BitVec 32 := ~~~ crcS (~~~ s) l

theorem lsb0 (x : BitVec 32) : x.getLsbD 0 = decide (x.toNat % 2 = 1) := by
  simp [BitVec.getLsbD, Nat.testBit_zero]
theorem Z_even (x : BitVec 32) (h : ¬ x.toNat % 2 = 1) : (Z x).toNat = x.toNat / 2 := by
  unfold Z
  rw [lsb0, decide_eq_false h]
  simp [Nat.shiftRight_eq_div_pow]
theorem Z_odd (x : BitVec 32) (h : x.toNat % 2 = 1) : Z x = (x >>> 1) ^^^ 0xedb88320#32 := by
  unfold Z
  rw [lsb0, decide_eq_true h]
  simp
theorem shr1 (x : BitVec 32) : (x >>> 1).toNat = x.toNat / 2 := by simp [Nat.shiftRight_eq_div_pow]
theorem crcS_append (s : BitVec 32) (l m : List UInt8) : crcS s (l ++ m) = crcS (crcS s l) m := by simp [crcS]
theorem crcS_snoc (s : BitVec 32) (l : List UInt8) (c : UInt8) : crcS s (l ++ [c]) = Zn 8 (crcS s l ^^^ b32 c) := by simp [crcS]
theorem crcU_append (s : BitVec 32) (l m : List UInt8) : crcU s (l ++ m) = crcU (crcU s l) m := by simp [crcU, crcS_append]

theorem Z_xor (a b : BitVec 32) : Z (a ^^^ b) = Z a ^^^ Z b := by
  apply BitVec.eq_of_getLsbD_eq
  intro i hi
  simp only [Z, BitVec.getLsbD_xor, BitVec.getLsbD_ushiftRight]
  cases a.getLsbD 0 <;> cases b.getLsbD 0 <;> simp <;> (try cases a.getLsbD (1 + i) <;> cases b.getLsbD (1 + i) <;> cases (3988292384#32).getLsbD i <;> rfl)
theorem Zn_xor (n : Nat) (a b : BitVec 32) : Zn n (a ^^^ b) = Zn n a ^^^ Zn n b := by
  induction n with
  | zero => rfl
  | succ n ih => simp [Zn, ih, Z_xor]
theorem Zn_Z (n : Nat) (x : BitVec 32) : Zn n (Z x) = Z (Zn n x) := by
  induction n with
  | zero => rfl
  | succ n ih => simp [Zn, ih]
theorem Zn_add (m n : Nat) (x : BitVec 32) : Zn (m + n) x = Zn m (Zn n x) := by
  induction m with
  | zero => simp [Zn]
  | succ m ih => rw [Nat.add_right_comm]; simp [Zn, ih]
theorem Z_zero : Z 0#32 = 0#32 := by decide
theorem Zn_zero (n : Nat) : Zn n 0#32 = 0#32 := by
  induction n with
  | zero => rfl
  | succ n ih => simp [Zn, ih, Z_zero]
/-- The low bits gone, the register only moves. -/
theorem Zn_high (k : Nat) : ∀ y : Nat, y * 2 ^ k < 4294967296 → (Zn k (BitVec.ofNat 32 (y * 2 ^ k))).toNat = y := by
  induction k with
  | zero => intro y h; simp [Zn]; omega
  | succ k ih =>
    intro y h
    have h2 : y * 2 ^ (k + 1) = y * 2 ^ k * 2 := by rw [Nat.pow_succ, Nat.mul_assoc]
    have e : Z (BitVec.ofNat 32 (y * 2 ^ (k + 1))) = BitVec.ofNat 32 (y * 2 ^ k) := by
      apply BitVec.eq_of_toNat_eq
      rw [Z_even]
      · simp only [BitVec.toNat_ofNat]; omega
      · simp only [BitVec.toNat_ofNat]; omega
    have : Zn (k + 1) (BitVec.ofNat 32 (y * 2 ^ (k + 1))) = Zn k (BitVec.ofNat 32 (y * 2 ^ k)) := by
      rw [← e, Zn_Z]; rfl
    rw [this]
    exact ih y (by omega)
/-- The byte step by the table: the low byte through the register, the rest moved. -/
theorem byte_step (x : BitVec 32) : Zn 8 (BitVec.ofNat 32 (x.toNat % 256)) ^^^ (x >>> 8) = Zn 8 x := by
  have hx := x.isLt
  have hsplit : x = BitVec.ofNat 32 (x.toNat % 256) ^^^ BitVec.ofNat 32 (x.toNat / 256 * 2 ^ 8) := by
    apply BitVec.eq_of_getLsbD_eq
    intro i hi
    rw [BitVec.getLsbD_xor]
    simp only [BitVec.getLsbD_ofNat, hi, decide_true, Bool.true_and]
    rw [show (256 : Nat) = 2 ^ 8 by rfl, Nat.testBit_mod_two_pow, Nat.testBit_mul_two_pow, Nat.testBit_div_two_pow]
    rw [BitVec.getLsbD]
    by_cases h8 : i < 8
    · simp [h8, show ¬ 8 ≤ i by omega]
    · simp [h8, show 8 ≤ i by omega, show i - 8 + 8 = i by omega]
  have hhigh : Zn 8 (BitVec.ofNat 32 (x.toNat / 256 * 2 ^ 8)) = x >>> 8 := by
    apply BitVec.eq_of_toNat_eq
    rw [Zn_high 8 (x.toNat / 256) (by omega)]
    simp [Nat.shiftRight_eq_div_pow]
  conv => rhs; rw [hsplit, Zn_xor, hhigh]
/-- The bytes of a word, the least one first. -/
def le1 (i : Nat) (x : BitVec 32) : UInt8 := UInt8.ofNat (x.toNat / 256 ^ i % 256)
def leN : Nat → BitVec 32 → List UInt8
  | 0, _ => []
  | n + 1, x => leN n x ++ [le1 n x]
theorem leN_length (n : Nat) (x : BitVec 32) : (leN n x).length = n := by
  induction n with
  | zero => rfl
  | succ n ih => simp [leN, ih]
/-- A string with its checksum behind it. -/
def withCrc (l : List UInt8) : List UInt8 := l ++ leN 4 (crcU 0#32 l)
theorem withCrc_length (l : List UInt8) : (withCrc l).length = l.length + 4 := by simp [withCrc, leN_length]
/-- Whether a string ends with the checksum of what is before. -/
def checkB (l : List UInt8) : Bool := decide (4 ≤ l.length) && decide (withCrc (l.take (l.length - 4)) = l)
end Go.Proofs.Ytgaadmgcjnikkaa
/- Linearity and bursts in plain Lean: the register as a reduction of one great number. No program in sight. -/
namespace Go.Proofs.Ytgaadmgcjnikkaa

theorem b32_toNat (c : UInt8) : (b32 c).toNat = c.toNat := by
  have := c.toNat_lt
  simp [b32]
theorem b32_xor (a b : UInt8) : b32 (a ^^^ b) = b32 a ^^^ b32 b := by
  apply BitVec.eq_of_toNat_eq
  rw [BitVec.toNat_xor, b32_toNat, b32_toNat, b32_toNat, UInt8.toNat_xor]

/-- Byte by byte exclusive or. -/
def x2 : List UInt8 → List UInt8 → List UInt8
  | a :: as, b :: bs => (a ^^^ b) :: x2 as bs
  | _, _ => []
theorem x2_length : ∀ (a b : List UInt8), a.length = b.length → (x2 a b).length = a.length
  | [], [], _ => rfl
  | a :: as, b :: bs, h => by simp [x2, x2_length as bs (by simpa using h)]
  | [], _ :: _, h => by simp at h
  | _ :: _, [], h => by simp at h
theorem crcS_x2 : ∀ (a b : List UInt8) (s t : BitVec 32), a.length = b.length → crcS (s ^^^ t) (x2 a b) = crcS s a ^^^ crcS t b
  | [], [], s, t, _ => rfl
  | a :: as, b :: bs, s, t, h => by
    have h' : as.length = bs.length := by simpa using h
    show crcS (Zn 8 (s ^^^ t ^^^ b32 (a ^^^ b))) (x2 as bs) = crcS (Zn 8 (s ^^^ b32 a)) as ^^^ crcS (Zn 8 (t ^^^ b32 b)) bs
    rw [← crcS_x2 as bs _ _ h', ← Zn_xor, b32_xor]
    congr 2
    rw [BitVec.xor_assoc, BitVec.xor_assoc, ← BitVec.xor_assoc t, BitVec.xor_comm t, BitVec.xor_assoc]
  | [], _ :: _, _, _, h => by simp at h
  | _ :: _, [], _, _, h => by simp at h
theorem x2_get : ∀ (a b : List UInt8) (i : Nat) (ha : i < a.length) (hb : i < b.length), (x2 a b)[i]? = some (a[i] ^^^ b[i])
  | [], _, _, ha, _ => by simp at ha
  | _ :: _, [], _, _, hb => by simp at hb
  | a :: as, b :: bs, 0, _, _ => rfl
  | a :: as, b :: bs, i + 1, ha, hb => by
    simp only [x2, List.getElem?_cons_succ, List.getElem_cons_succ]
    exact x2_get as bs i (by simpa using ha) (by simpa using hb)

/-- Byte by byte, three strings. -/
def x3 : List UInt8 → List UInt8 → List UInt8 → List UInt8
  | a :: as, b :: bs, c :: cs => (a ^^^ b ^^^ c) :: x3 as bs cs
  | _, _, _ => []
theorem crcS_x3 : ∀ (a b c : List UInt8) (s t u : BitVec 32), a.length = b.length → b.length = c.length → crcS (s ^^^ t ^^^ u) (x3 a b c) = crcS s a ^^^ crcS t b ^^^ crcS u c
  | [], [], [], s, t, u, _, _ => rfl
  | a :: as, b :: bs, c :: cs, s, t, u, h, h' => by
    show crcS (Zn 8 (s ^^^ t ^^^ u ^^^ b32 (a ^^^ b ^^^ c))) (x3 as bs cs) = crcS (Zn 8 (s ^^^ b32 a)) as ^^^ crcS (Zn 8 (t ^^^ b32 b)) bs ^^^ crcS (Zn 8 (u ^^^ b32 c)) cs
    rw [← crcS_x3 as bs cs _ _ _ (by simpa using h) (by simpa using h'), ← Zn_xor, ← Zn_xor, b32_xor, b32_xor]
    congr 2
    ac_rfl
  | [], _ :: _, _, _, _, _, h, _ => by simp at h
  | _ :: _, [], _, _, _, _, h, _ => by simp at h
  | [], [], _ :: _, _, _, _, _, h => by simp at h
  | _ :: _, _ :: _, [], _, _, _, _, h => by simp at h
theorem not_xor4 (a b c : BitVec 32) : (~~~ a) ^^^ (~~~ b) ^^^ (~~~ c) ^^^ (~~~ (a ^^^ b ^^^ c)) = 0#32 := by
  apply BitVec.eq_of_getLsbD_eq
  intro i hi
  simp only [BitVec.getLsbD_xor, BitVec.getLsbD_not, hi, decide_true, Bool.true_and, BitVec.getLsbD_zero]
  cases a.getLsbD i <;> cases b.getLsbD i <;> cases c.getLsbD i <;> rfl
theorem crcU_x3 (a b c : List UInt8) (h : a.length = b.length) (h' : b.length = c.length) : crcU 0#32 a ^^^ crcU 0#32 b ^^^ crcU 0#32 c ^^^ crcU 0#32 (x3 a b c) = 0#32 := by
  have e := crcS_x3 a b c (~~~ 0#32) (~~~ 0#32) (~~~ 0#32) h h'
  rw [show (~~~ 0#32) ^^^ (~~~ 0#32) ^^^ (~~~ 0#32) = ~~~ 0#32 by decide] at e
  unfold crcU
  rw [e]
  exact not_xor4 _ _ _
theorem x3_length : ∀ (a b c : List UInt8), a.length = b.length → b.length = c.length → (x3 a b c).length = a.length
  | [], [], [], _, _ => rfl
  | a :: as, b :: bs, c :: cs, h, h' => by simp [x3, x3_length as bs cs (by simpa using h) (by simpa using h')]
  | [], _ :: _, _, h, _ => by simp at h
  | _ :: _, [], _, h, _ => by simp at h
  | [], [], _ :: _, _, h => by simp at h
  | _ :: _, _ :: _, [], _, h => by simp at h
theorem x3_get : ∀ (a b c : List UInt8) (i : Nat) (ha : i < a.length) (hb : i < b.length) (hc : i < c.length), (x3 a b c)[i]? = some (a[i] ^^^ b[i] ^^^ c[i])
  | [], _, _, _, ha, _, _ => by simp at ha
  | _ :: _, [], _, _, _, hb, _ => by simp at hb
  | _ :: _, _ :: _, [], _, _, _, hc => by simp at hc
  | a :: as, b :: bs, c :: cs, 0, _, _, _ => rfl
  | a :: as, b :: bs, c :: cs, i + 1, ha, hb, hc => by
    simp only [x3, List.getElem?_cons_succ, List.getElem_cons_succ]
    exact x3_get as bs cs i (by simpa using ha) (by simpa using hb) (by simpa using hc)
/-- The register's one bit on numbers of whatever size. -/
def R (x : Nat) : Nat := (x / 2) ^^^ (if x % 2 = 1 then 0xedb88320 else 0)
def Rn : Nat → Nat → Nat
  | 0, x => x
  | n + 1, x => Rn n (R x)
theorem Rn_add (m n : Nat) : ∀ x, Rn (m + n) x = Rn n (Rn m x) := by
  induction m with
  | zero => intro x; simp [Rn]
  | succ m ih => intro x; rw [Nat.add_right_comm]; simp [Rn, ih]
theorem R_xor (x y : Nat) : R (x ^^^ y) = R x ^^^ R y := by
  have hm : (x ^^^ y) % 2 = (x % 2) ^^^ (y % 2) := by
    have := Nat.xor_mod_two_pow (a := x) (b := y) (n := 1)
    simpa using this
  have hd : (x ^^^ y) / 2 = (x / 2) ^^^ (y / 2) := by
    have := Nat.shiftRight_xor_distrib (a := x) (b := y) (i := 1)
    simpa [Nat.shiftRight_eq_div_pow] using this
  unfold R
  rw [hm, hd]
  have hx : x % 2 = 0 ∨ x % 2 = 1 := by omega
  have hy : y % 2 = 0 ∨ y % 2 = 1 := by omega
  rcases hx with hx | hx <;> rcases hy with hy | hy <;> rw [hx, hy] <;> simp only [Nat.zero_xor, Nat.xor_zero, Nat.xor_self, if_pos, Nat.zero_ne_one, reduceIte]
  · rw [Nat.xor_assoc]
  · rw [Nat.xor_assoc, Nat.xor_assoc]; congr 1; rw [Nat.xor_comm]
  · rw [Nat.xor_assoc]; congr 1; rw [Nat.xor_comm (y / 2), ← Nat.xor_assoc, Nat.xor_self, Nat.zero_xor]
theorem Rn_xor (n : Nat) : ∀ x y, Rn n (x ^^^ y) = Rn n x ^^^ Rn n y := by
  induction n with
  | zero => intro x y; rfl
  | succ n ih => intro x y; simp only [Rn]; rw [R_xor, ih]
theorem R_even (x : Nat) : R (x * 2) = x := by unfold R; rw [show x * 2 / 2 = x by omega, show x * 2 % 2 = 0 by omega]; simp
theorem Rn_high (k : Nat) : ∀ y, Rn k (y * 2 ^ k) = y := by
  induction k with
  | zero => intro y; simp [Rn]
  | succ k ih => intro y; rw [Nat.pow_succ, ← Nat.mul_assoc, Rn, R_even, ih]
theorem R_Z (x : BitVec 32) : R x.toNat = (Z x).toNat := by
  unfold R
  by_cases h : x.toNat % 2 = 1
  · rw [if_pos h, Z_odd x h, BitVec.toNat_xor, shr1]; rfl
  · rw [if_neg h, Z_even x h, Nat.xor_zero]
theorem Rn_Zn (n : Nat) : ∀ x : BitVec 32, Rn n x.toNat = (Zn n x).toNat := by
  induction n with
  | zero => intro x; rfl
  | succ n ih => intro x; rw [Rn, R_Z, ih, Zn_Z]; rfl
/-- The number that the bytes spell, the first one least. -/
def val : List UInt8 → Nat
  | [] => 0
  | c :: l => c.toNat + 256 * val l
theorem add_xor (c m : Nat) (h : c < 256) : c + 256 * m = c ^^^ (m * 2 ^ 8) := by
  apply Nat.eq_of_testBit_eq
  intro i
  rw [Nat.testBit_xor, Nat.testBit_mul_two_pow, show c + 256 * m = 2 ^ 8 * m + c by omega, Nat.testBit_two_pow_mul_add _ (by omega)]
  by_cases hi : i < 8
  · simp [hi, show ¬ 8 ≤ i by omega]
  · have : c.testBit i = false := Nat.testBit_lt_two_pow (Nat.lt_of_lt_of_le h (by
      have : 2 ^ 8 ≤ 2 ^ i := Nat.pow_le_pow_right (by omega) (by omega)
      simpa using this))
    simp [hi, this, show 8 ≤ i by omega]
theorem crcS_val : ∀ (l : List UInt8) (s : BitVec 32), (crcS s l).toNat = Rn (8 * l.length) (s.toNat ^^^ val l)
  | [], s => by simp [crcS, val, Rn]
  | c :: l, s => by
    have hc := c.toNat_lt
    show (crcS (Zn 8 (s ^^^ b32 c)) l).toNat = _
    rw [crcS_val l, ← Rn_Zn, BitVec.toNat_xor, b32_toNat, List.length_cons, show 8 * (l.length + 1) = 8 + 8 * l.length by omega, Rn_add, val, add_xor _ _ (by omega), ← Nat.xor_assoc, Rn_xor 8 _ (val l * 2 ^ 8), Rn_high]
theorem R_lt (x : Nat) (h : x < 4294967296) : R x < 4294967296 := by
  unfold R
  have : x / 2 < 2 ^ 32 := by omega
  exact Nat.xor_lt_two_pow this (by split <;> omega)
theorem xor_zero_eq {a b : Nat} (h : a ^^^ b = 0) : a = b := by
  have : a ^^^ b ^^^ b = b := by rw [h, Nat.zero_xor]
  rwa [Nat.xor_assoc, Nat.xor_self, Nat.xor_zero] at this
theorem R_zero (x : Nat) (h : x < 4294967296) (h0 : R x = 0) : x = 0 := by
  unfold R at h0
  have he := xor_zero_eq h0
  split at he <;> omega
theorem Rn_lt (n : Nat) : ∀ x, x < 4294967296 → Rn n x < 4294967296 := by
  induction n with
  | zero => intro x h; exact h
  | succ n ih => intro x h; exact ih _ (R_lt x h)
theorem Rn_zero (n : Nat) : ∀ x, x < 4294967296 → Rn n x = 0 → x = 0 := by
  induction n with
  | zero => intro x _ h; exact h
  | succ n ih => intro x h h0; exact R_zero x h (ih _ (R_lt x h) h0)
theorem Rn_0 (n : Nat) : Rn n 0 = 0 := by
  induction n with
  | zero => rfl
  | succ n ih => rw [Rn, show R 0 = 0 by rfl, ih]
/-- A burst of up to 32 bits, cut off at the end, leaves the register zero only if there is nothing of it. -/
theorem burst (N from_ P : Nat) (hP : P < 4294967296) (hf : from_ ≤ N) : Rn N (P * 2 ^ from_ % 2 ^ N) = 0 ↔ P * 2 ^ from_ % 2 ^ N = 0 := by
  have e : P * 2 ^ from_ % 2 ^ N = (P % 2 ^ (N - from_)) * 2 ^ from_ := by
    rw [show (2 : Nat) ^ N = 2 ^ (N - from_) * 2 ^ from_ by rw [← Nat.pow_add]; congr 1; omega, Nat.mul_mod_mul_right]
  rw [e]
  constructor
  · intro h
    rw [show N = from_ + (N - from_) by omega, Rn_add, show from_ + (N - from_) - from_ = N - from_ by omega, Rn_high] at h
    have := Rn_zero _ _ (Nat.lt_of_le_of_lt (Nat.mod_le _ _) hP) h
    rw [this, Nat.zero_mul]
  · intro h; rw [h, Rn_0]
end Go.Proofs.Ytgaadmgcjnikkaa
/- The bits that Flip inverts, as the bytes of one great number; and that the checksum finds them. No program in sight. -/
namespace Go.Proofs.Ytgaadmgcjnikkaa

/-- Byte j of a number. -/
def byteN (X j : Nat) : Nat := X / 256 ^ j % 256
theorem byteN_lt (X j : Nat) : byteN X j < 256 := Nat.mod_lt _ (by omega)
theorem byteN_bit (X j i : Nat) : (byteN X j).testBit i = (decide (i < 8) && X.testBit (i + 8 * j)) := by
  unfold byteN
  rw [show (256 : Nat) = 2 ^ 8 by rfl, ← Nat.pow_mul, Nat.testBit_mod_two_pow, Nat.testBit_div_two_pow]
theorem byteN_xor (X Y j : Nat) : byteN (X ^^^ Y) j = byteN X j ^^^ byteN Y j := by
  apply Nat.eq_of_testBit_eq
  intro i
  rw [Nat.testBit_xor, byteN_bit, byteN_bit, byteN_bit, Nat.testBit_xor]
  cases decide (i < 8) <;> simp
theorem byteN_pow (m j : Nat) : byteN (2 ^ m) j = if m / 8 = j then 2 ^ (m % 8) else 0 := by
  apply Nat.eq_of_testBit_eq
  intro i
  rw [byteN_bit, Nat.testBit_two_pow]
  by_cases h : m / 8 = j
  · rw [if_pos h, Nat.testBit_two_pow]
    by_cases hi : i < 8
    · simp only [hi, decide_true, Bool.true_and, decide_eq_decide]
      omega
    · have : ¬ m % 8 = i := by omega
      simp [hi, this]
  · rw [if_neg h, Nat.zero_testBit]
    by_cases hi : i < 8
    · have : ¬ m = i + 8 * j := by omega
      simp [this]
    · simp [hi]
/-- The bits up to the k-th, laid at place f. -/
def Xk (p f k : Nat) : Nat := (p % 2 ^ k) * 2 ^ f
theorem Xk_zero (p f : Nat) : Xk p f 0 = 0 := by simp [Xk, Nat.mod_one]
theorem Xk_bit (p f k i : Nat) : (Xk p f k).testBit i = (decide (f ≤ i) && (decide (i - f < k) && p.testBit (i - f))) := by
  unfold Xk
  rw [Nat.testBit_mul_two_pow, Nat.testBit_mod_two_pow]
theorem Xk_yes (p f k : Nat) (h : p.testBit k = true) : Xk p f (k + 1) = Xk p f k ^^^ 2 ^ (f + k) := by
  apply Nat.eq_of_testBit_eq
  intro i
  rw [Nat.testBit_xor, Xk_bit, Xk_bit, Nat.testBit_two_pow]
  by_cases h1 : f ≤ i
  · by_cases h2 : f + k = i
    · have e : i - f = k := by omega
      simp [h1, h2, e, h]
    · have e : (i - f < k + 1) ↔ (i - f < k) := by omega
      simp [h1, h2, e]
  · have h2 : ¬ f + k = i := by omega
    simp [h1, h2]
theorem Xk_no (p f k : Nat) (h : p.testBit k = false) : Xk p f (k + 1) = Xk p f k := by
  apply Nat.eq_of_testBit_eq
  intro i
  rw [Xk_bit, Xk_bit]
  by_cases h1 : i - f = k
  · simp [h1, h]
  · have e : (i - f < k + 1) ↔ (i - f < k) := by omega
    simp [e]
theorem Xk_full (p f : Nat) (h : p < 4294967296) : Xk p f 32 = p * 2 ^ f := by
  unfold Xk
  rw [Nat.mod_eq_of_lt h]

/-- The bytes of a number, n of them. -/
def bytesN : Nat → Nat → List UInt8
  | 0, _ => []
  | n + 1, X => UInt8.ofNat (X % 256) :: bytesN n (X / 256)
theorem bytesN_length (n : Nat) : ∀ X, (bytesN n X).length = n := by
  induction n with
  | zero => intro X; rfl
  | succ n ih => intro X; simp [bytesN, ih]
theorem bytesN_get (n : Nat) : ∀ (X j : Nat), j < n → (bytesN n X)[j]? = some (UInt8.ofNat (byteN X j)) := by
  induction n with
  | zero => intro X j h; omega
  | succ n ih =>
    intro X j h
    cases j with
    | zero => simp [bytesN, byteN]
    | succ j =>
      simp only [bytesN, List.getElem?_cons_succ]
      rw [ih _ _ (by omega)]
      unfold byteN
      rw [Nat.div_div_eq_div_mul, Nat.pow_succ, Nat.mul_comm]
theorem val_bytesN (n : Nat) : ∀ X, val (bytesN n X) = X % 2 ^ (8 * n) := by
  induction n with
  | zero => intro X; simp [bytesN, val, Nat.mod_one]
  | succ n ih =>
    intro X
    rw [bytesN, val, ih, UInt8.toNat_ofNat', show 8 * (n + 1) = 8 + 8 * n by omega, Nat.pow_add, Nat.mod_mul]
    rw [show X % 256 % 2 ^ 8 = X % 2 ^ 8 by omega]
theorem val_zero : ∀ l : List UInt8, val l = 0 → l = List.replicate l.length 0
  | [], _ => rfl
  | c :: l, h => by
    have hc : c.toNat = 0 := by unfold val at h; omega
    have hl : val l = 0 := by unfold val at h; omega
    have : c = 0 := UInt8.toNat_inj.1 (by simpa using hc)
    rw [List.length_cons, List.replicate_succ, ← val_zero l hl, this]
theorem x2_zero : ∀ l : List UInt8, x2 l (List.replicate l.length 0) = l
  | [] => rfl
  | c :: l => by
    rw [List.length_cons, List.replicate_succ, x2, x2_zero l]
    simp
theorem x2_eq_iff : ∀ (l e : List UInt8), l.length = e.length → (x2 l e = l ↔ val e = 0)
  | [], [], _ => by simp [x2, val]
  | c :: l, d :: e, h => by
    have ih := x2_eq_iff l e (by simpa using h)
    rw [x2, List.cons.injEq, ih, val]
    constructor
    · rintro ⟨h1, h2⟩
      have : d = 0 := by
        have h3 : c ^^^ (c ^^^ d) = c ^^^ c := by rw [h1]
        rw [← UInt8.xor_assoc, UInt8.xor_self, UInt8.zero_xor] at h3
        exact h3
      rw [this, h2]; rfl
    · intro h0
      have h1 : d.toNat = 0 := by omega
      have h2 : d = 0 := UInt8.toNat_inj.1 (by simpa using h1)
      exact ⟨by rw [h2]; simp, by omega⟩
  | [], _ :: _, h => by simp at h
  | _ :: _, [], h => by simp at h

/-- Four bytes as a word. -/
def word4 (q : List UInt8) : BitVec 32 := BitVec.ofNat 32 (val q)
theorem crcS_four (s : BitVec 32) (q : List UInt8) (hq : q.length = 4) : (crcS s q).toNat = Rn 32 (s.toNat ^^^ val q) := by
  rw [crcS_val, hq]
theorem val_lt4 : ∀ (q : List UInt8), val q < 2 ^ (8 * q.length)
  | [] => by simp [val]
  | c :: l => by
    have := val_lt4 l
    have hc := c.toNat_lt
    rw [val, List.length_cons, show 8 * (l.length + 1) = 8 + 8 * l.length by omega, Nat.pow_add]
    have : 256 * (val l + 1) ≤ 256 * 2 ^ (8 * l.length) := Nat.mul_le_mul_left _ (by omega)
    omega
theorem val_leN4 (x : BitVec 32) : val (leN 4 x) = x.toNat := by
  have hx := x.isLt
  have e : leN 4 x = [le1 0 x, le1 1 x, le1 2 x, le1 3 x] := rfl
  rw [e]
  simp only [val, le1, UInt8.toNat_ofNat']
  omega
theorem val_inj : ∀ (a b : List UInt8), a.length = b.length → val a = val b → a = b
  | [], [], _, _ => rfl
  | c :: l, d :: m, h, hv => by
    unfold val at hv
    have hc := c.toNat_lt
    have hd := d.toNat_lt
    have e1 : c.toNat = d.toNat := by omega
    have e2 : val l = val m := by omega
    rw [UInt8.toNat_inj.1 e1, val_inj l m (by simpa using h) e2]
  | [], _ :: _, h, _ => by simp at h
  | _ :: _, [], h, _ => by simp at h
theorem xor_cancel (a b c : Nat) (h : a ^^^ b = a ^^^ c) : b = c := by
  have : a ^^^ (a ^^^ b) = a ^^^ (a ^^^ c) := by rw [h]
  rwa [← Nat.xor_assoc, ← Nat.xor_assoc, Nat.xor_self, Nat.zero_xor, Nat.zero_xor] at this
/-- The register behind a string with its right checksum. -/
def Kres : Nat := Rn 32 4294967295
theorem residue (p q : List UInt8) (hq : q.length = 4) : leN 4 (crcU 0#32 p) = q ↔ (crcS (~~~ 0#32) (p ++ q)).toNat = Kres := by
  rw [crcS_append, crcS_four _ _ hq]
  generalize hs : crcS (~~~ 0#32) p = s
  have hu : crcU 0#32 p = ~~~ s := by unfold crcU; rw [hs]
  have hvq := val_lt4 q
  rw [hq] at hvq
  have hsn : s.toNat ^^^ (~~~ s).toNat = 4294967295 := by
    rw [← BitVec.toNat_xor]
    have : s ^^^ ~~~ s = BitVec.allOnes 32 := by
      apply BitVec.eq_of_getLsbD_eq
      intro i hi
      rw [BitVec.getLsbD_xor, BitVec.getLsbD_not, BitVec.getLsbD_allOnes]
      cases s.getLsbD i <;> simp [hi]
    rw [this]; rfl
  rw [hu]
  constructor
  · intro h
    rw [← h, val_leN4, hsn]; rfl
  · intro h
    unfold Kres at h
    have hz : Rn 32 ((s.toNat ^^^ val q) ^^^ 4294967295) = 0 := by rw [Rn_xor, h, Nat.xor_self]
    have hlt : (s.toNat ^^^ val q) ^^^ 4294967295 < 4294967296 := by
      have h1 : s.toNat ^^^ val q < 2 ^ 32 := Nat.xor_lt_two_pow s.isLt (by simpa using hvq)
      exact Nat.xor_lt_two_pow h1 (by omega)
    have he := xor_zero_eq (Rn_zero 32 _ hlt hz)
    have hv : val q = (~~~ s).toNat := xor_cancel s.toNat _ _ (he.trans hsn.symm)
    exact val_inj _ _ (by rw [hq]; exact leN_length 4 _) (by rw [val_leN4, hv])
theorem checkB_iff (l : List UInt8) (h : 4 ≤ l.length) : checkB l = true ↔ (crcS (~~~ 0#32) l).toNat = Kres := by
  unfold checkB
  rw [decide_eq_true h, Bool.true_and, decide_eq_true_iff]
  have hl : l = l.take (l.length - 4) ++ l.drop (l.length - 4) := (List.take_append_drop _ _).symm
  have hr := residue (l.take (l.length - 4)) (l.drop (l.length - 4)) (by simp; omega)
  rw [← hl] at hr
  rw [← hr]
  unfold withCrc
  constructor
  · intro h1
    exact List.append_cancel_left (h1.trans hl)
  · intro h1
    rw [h1, ← hl]
theorem checkB_withCrc (l : List UInt8) : checkB (withCrc l) = true := by
  unfold checkB
  rw [decide_eq_true (by rw [withCrc_length]; omega), Bool.true_and, decide_eq_true_iff, withCrc_length, show l.length + 4 - 4 = l.length by omega]
  have : (withCrc l).take l.length = l := by simp [withCrc]
  rw [this]
/-- A burst of up to 32 bits in a string with its checksum is found, exactly if there is anything of it. -/
theorem finds (c : List UInt8) (p f : Nat) (hc : 4 ≤ c.length) (hk : checkB c = true) (hp : p < 4294967296) (hf : f ≤ 8 * c.length) :
    checkB (x2 c (bytesN c.length (p * 2 ^ f))) = decide (c = x2 c (bytesN c.length (p * 2 ^ f))) := by
  have hlen : c.length = (bytesN c.length (p * 2 ^ f)).length := (bytesN_length _ _).symm
  have hx : (x2 c (bytesN c.length (p * 2 ^ f))).length = c.length := x2_length _ _ hlen
  have h1 := (checkB_iff c hc).1 hk
  have h2 := checkB_iff (x2 c (bytesN c.length (p * 2 ^ f))) (by omega)
  have h3 := crcS_x2 c (bytesN c.length (p * 2 ^ f)) (~~~ 0#32) 0#32 hlen
  rw [BitVec.xor_zero] at h3
  have h4 := x2_eq_iff c _ hlen
  rw [val_bytesN] at h4
  have h5 := burst (8 * c.length) f p hp hf
  have h6 : (crcS 0#32 (bytesN c.length (p * 2 ^ f))).toNat = Rn (8 * c.length) (p * 2 ^ f % 2 ^ (8 * c.length)) := by
    rw [crcS_val, bytesN_length, val_bytesN]; simp
  rw [Bool.eq_iff_iff, decide_eq_true_iff, h2, h3, BitVec.toNat_xor, h1, h6]
  constructor
  · intro h
    have h7 : Rn (8 * c.length) (p * 2 ^ f % 2 ^ (8 * c.length)) = 0 := xor_cancel Kres _ _ (by rw [h, Nat.xor_zero])
    exact (h4.2 (h5.1 h7)).symm
  · intro h
    rw [h5.2 (h4.1 h.symm), Nat.xor_zero]
end Go.Proofs.Ytgaadmgcjnikkaa
