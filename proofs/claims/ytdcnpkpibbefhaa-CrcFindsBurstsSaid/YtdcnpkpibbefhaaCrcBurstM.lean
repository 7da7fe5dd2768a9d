/- Linearity and bursts in plain Lean: the register as a reduction of one great number. No program in sight. -/
import Derived.Test.YtdcnpkpibbefhaaCrcMath
namespace Go.Proofs.Ytdcnpkpibbefhaa

theorem b32_toNat (c : UInt8) : (b32 c).toNat = c.toNat := by
  have := c.toNat_lt
  simp [b32]
theorem b32_xor (a b : UInt8) : b32 (a ^^^ b) = b32 a ^^^ b32 b := by
  apply BitVec.eq_of_toNat_eq
  rw [BitVec.toNat_xor, b32_toNat, b32_toNat, b32_toNat, UInt8.toNat_xor]

/-- Byte by byte exclusive or. -/
def x2 : List UInt8 → List UInt8 → List UInt8
  | a :: as, b :: bs => (a ^^^ b) :: x2 as bs
  | _, _ => []
theorem x2_length : ∀ (a b : List UInt8), a.length = b.length → (x2 a b).length = a.length
  | [], [], _ => rfl
  | a :: as, b :: bs, h => by simp [x2, x2_length as bs (by simpa using h)]
  | [], _ :: _, h => by simp at h
  | _ :: _, [], h => by simp at h
theorem crcS_x2 : ∀ (a b : List UInt8) (s t : BitVec 32), a.length = b.length → crcS (s ^^^ t) (x2 a b) = crcS s a ^^^ crcS t b
  | [], [], s, t, _ => rfl
  | a :: as, b :: bs, s, t, h => by
    have h' : as.length = bs.length := by simpa using h
    show crcS (Zn 8 (s ^^^ t ^^^ b32 (a ^^^ b))) (x2 as bs) = crcS (Zn 8 (s ^^^ b32 a)) as ^^^ crcS (Zn 8 (t ^^^ b32 b)) bs
    rw [← crcS_x2 as bs _ _ h', ← Zn_xor, b32_xor]
    congr 2
    rw [BitVec.xor_assoc, BitVec.xor_assoc, ← BitVec.xor_assoc t, BitVec.xor_comm t, BitVec.xor_assoc]
  | [], _ :: _, _, _, h => by simp at h
  | _ :: _, [], _, _, h => by simp at h
theorem x2_get : ∀ (a b : List UInt8) (i : Nat) (ha : i < a.length) (hb : i < b.length), (x2 a b)[i]? = some (a[i] ^^^ b[i])
  | [], _, _, ha, _ => by simp at ha
  | _ :: _, [], _, _, hb => by simp at hb
  | a :: as, b :: bs, 0, _, _ => rfl
  | a :: as, b :: bs, i + 1, ha, hb => by
    simp only [x2, List.getElem?_cons_succ, List.getElem_cons_succ]
    exact x2_get as bs i (by simpa using ha) (by simpa using hb)

/-- Byte by byte, three strings. -/
def x3 : List UInt8 → List UInt8 → List UInt8 → List UInt8
  | a :: as, b :: bs, c :: cs => (a ^^^ b ^^^ c) :: x3 as bs cs
  | _, _, _ => []
theorem crcS_x3 : ∀ (a b c : List UInt8) (s t u : BitVec 32), a.length = b.length → b.length = c.length → crcS (s ^^^ t ^^^ u) (x3 a b c) = crcS s a ^^^ crcS t b ^^^ crcS u c
  | [], [], [], s, t, u, _, _ => rfl
  | a :: as, b :: bs, c :: cs, s, t, u, h, h' => by
    show crcS (Zn 8 (s ^^^ t ^^^ u ^^^ b32 (a ^^^ b ^^^ c))) (x3 as bs cs) = crcS (Zn 8 (s ^^^ b32 a)) as ^^^ crcS (Zn 8 (t ^^^ b32 b)) bs ^^^ crcS (Zn 8 (u ^^^ b32 c)) cs
    rw [← crcS_x3 as bs cs _ _ _ (by simpa using h) (by simpa using h'), ← Zn_xor, ← Zn_xor, b32_xor, b32_xor]
    congr 2
    ac_rfl
  | [], _ :: _, _, _, _, _, h, _ => by simp at h
  | _ :: _, [], _, _, _, _, h, _ => by simp at h
  | [], [], _ :: _, _, _, _, _, h => by simp at h
  | _ :: _, _ :: _, [], _, _, _, _, h => by simp at h
theorem not_xor4 (a b c : BitVec 32) : (~~~ a) ^^^ (~~~ b) ^^^ (~~~ c) ^^^ (~~~ (a ^^^ b ^^^ c)) = 0#32 := by
  apply BitVec.eq_of_getLsbD_eq
  intro i hi
  simp only [BitVec.getLsbD_xor, BitVec.getLsbD_not, hi, decide_true, Bool.true_and, BitVec.getLsbD_zero]
  cases a.getLsbD i <;> cases b.getLsbD i <;> cases c.getLsbD i <;> rfl
theorem crcU_x3 (a b c : List UInt8) (h : a.length = b.length) (h' : b.length = c.length) : crcU 0#32 a ^^^ crcU 0#32 b ^^^ crcU 0#32 c ^^^ crcU 0#32 (x3 a b c) = 0#32 := by
  have e := crcS_x3 a b c (~~~ 0#32) (~~~ 0#32) (~~~ 0#32) h h'
  rw [show (~~~ 0#32) ^^^ (~~~ 0#32) ^^^ (~~~ 0#32) = ~~~ 0#32 by decide] at e
  unfold crcU
  rw [e]
  exact not_xor4 _ _ _
theorem x3_length : ∀ (a b c : List UInt8), a.length = b.length → b.length = c.length → (x3 a b c).length = a.length
  | [], [], [], _, _ => rfl
  | a :: as, b :: bs, c :: cs, h, h' => by simp [x3, x3_length as bs cs (by simpa using h) (by simpa using h')]
  | [], _ :: _, _, h, _ => by simp at h
  | _ :: _, [], _, h, _ => by simp at h
  | [], [], _ :: _, _, h => by simp at h
  | _ :: _, _ :: _, [], _, h => by simp at h
theorem x3_get : ∀ (a b c : List UInt8) (i : Nat) (ha : i < a.length) (hb : i < b.length) (hc : i < c.length), (x3 a b c)[i]? = some (a[i] ^^^ b[i] ^^^ c[i])
  | [], _, _, _, ha, _, _ => by simp at ha
  | _ :: _, [], _, _, _, hb, _ => by simp at hb
  | _ :: _, _ :: _, [], _, _, _, hc => by simp at hc
  | a :: as, b :: bs, c :: cs, 0, _, _, _ => rfl
  | a :: as, b :: bs, c :: cs, i + 1, ha, hb, hc => by
    simp only [x3, List.getElem?_cons_succ, List.getElem_cons_succ]
    exact x3_get as bs cs i (by simpa using ha) (by simpa using hb) (by simpa using hc)
/-- The register's one bit on numbers of whatever size. -/
def R (x : Nat) : Nat := (x / 2) ^^^ (if x % 2 = 1 then 0xedb88320 else 0)
def Rn : Nat → Nat → Nat
  | 0, x => x
  | n + 1, x => Rn n (R x)
theorem Rn_add (m n : Nat) : ∀ x, Rn (m + n) x = Rn n (Rn m x) := by
  induction m with
  | zero => intro x; simp [Rn]
  | succ m ih => intro x; rw [Nat.add_right_comm]; simp [Rn, ih]
theorem R_xor (x y : Nat) : R (x ^^^ y) = R x ^^^ R y := by
  have hm : (x ^^^ y) % 2 = (x % 2) ^^^ (y % 2) := by
    have := Nat.xor_mod_two_pow (a := x) (b := y) (n := 1)
    simpa using this
  have hd : (x ^^^ y) / 2 = (x / 2) ^^^ (y / 2) := by
    have := Nat.shiftRight_xor_distrib (a := x) (b := y) (i := 1)
    simpa [Nat.shiftRight_eq_div_pow] using this
  unfold R
  rw [hm, hd]
  have hx : x % 2 = 0 ∨ x % 2 = 1 := by omega
  have hy : y % 2 = 0 ∨ y % 2 = 1 := by omega
  rcases hx with hx | hx <;> rcases hy with hy | hy <;> rw [hx, hy] <;> simp only [Nat.zero_xor, Nat.xor_zero, Nat.xor_self, if_pos, Nat.zero_ne_one, reduceIte]
  · rw [Nat.xor_assoc]
  · rw [Nat.xor_assoc, Nat.xor_assoc]; congr 1; rw [Nat.xor_comm]
  · rw [Nat.xor_assoc]; congr 1; rw [Nat.xor_comm (y / 2), ← Nat.xor_assoc, Nat.xor_self, Nat.zero_xor]
theorem Rn_xor (n : Nat) : ∀ x y, Rn n (x ^^^ y) = Rn n x ^^^ Rn n y := by
  induction n with
  | zero => intro x y; rfl
  | succ n ih => intro x y; simp only [Rn]; rw [R_xor, ih]
theorem R_even (x : Nat) : R (x * 2) = x := by unfold R; rw [show x * 2 / 2 = x by omega, show x * 2 % 2 = 0 by omega]; simp
theorem Rn_high (k : Nat) : ∀ y, Rn k (y * 2 ^ k) = y := by
  induction k with
  | zero => intro y; simp [Rn]
  | succ k ih => intro y; rw [Nat.pow_succ, ← Nat.mul_assoc, Rn, R_even, ih]
theorem R_Z (x : BitVec 32) : R x.toNat = (Z x).toNat := by
  unfold R
  by_cases h : x.toNat % 2 = 1
  · rw [if_pos h, Z_odd x h, BitVec.toNat_xor, shr1]; rfl
  · rw [if_neg h, Z_even x h, Nat.xor_zero]
theorem Rn_Zn (n : Nat) : ∀ x : BitVec 32, Rn n x.toNat = (Zn n x).toNat := by
  induction n with
  | zero => intro x; rfl
  | succ n ih => intro x; rw [Rn, R_Z, ih, Zn_Z]; rfl
/-- The number that the bytes spell, the first one least. -/
def val : List UInt8 → Nat
  | [] => 0
  | c :: l => c.toNat + 256 * val l
theorem add_xor (c m : Nat) (h : c < 256) : c + 256 * m = c ^^^ (m * 2 ^ 8) := by
  apply Nat.eq_of_testBit_eq
  intro i
  rw [Nat.testBit_xor, Nat.testBit_mul_two_pow, show c + 256 * m = 2 ^ 8 * m + c by omega, Nat.testBit_two_pow_mul_add _ (by omega)]
  by_cases hi : i < 8
  · simp [hi, show ¬ 8 ≤ i by omega]
  · have : c.testBit i = false := Nat.testBit_lt_two_pow (Nat.lt_of_lt_of_le h (by
      have : 2 ^ 8 ≤ 2 ^ i := Nat.pow_le_pow_right (by omega) (by omega)
      simpa using this))
    simp [hi, this, show 8 ≤ i by omega]
theorem crcS_val : ∀ (l : List UInt8) (s : BitVec 32), (crcS s l).toNat = Rn (8 * l.length) (s.toNat ^^^ val l)
  | [], s => by simp [crcS, val, Rn]
  | c :: l, s => by
    have hc := c.toNat_lt
    show (crcS (Zn 8 (s ^^^ b32 c)) l).toNat = _
    rw [crcS_val l, ← Rn_Zn, BitVec.toNat_xor, b32_toNat, List.length_cons, show 8 * (l.length + 1) = 8 + 8 * l.length by omega, Rn_add, val, add_xor _ _ (by omega), ← Nat.xor_assoc, Rn_xor 8 _ (val l * 2 ^ 8), Rn_high]
theorem R_lt (x : Nat) (h : x < 4294967296) : R x < 4294967296 := by
  unfold R
  have : x / 2 < 2 ^ 32 := by omega
  exact Nat.xor_lt_two_pow this (by split <;> omega)
theorem xor_zero_eq {a b : Nat} (h : a ^^^ b = 0) : a = b := by
  have : a ^^^ b ^^^ b = b := by rw [h, Nat.zero_xor]
  rwa [Nat.xor_assoc, Nat.xor_self, Nat.xor_zero] at this
theorem R_zero (x : Nat) (h : x < 4294967296) (h0 : R x = 0) : x = 0 := by
  unfold R at h0
  have he := xor_zero_eq h0
  split at he <;> omega
theorem Rn_lt (n : Nat) : ∀ x, x < 4294967296 → Rn n x < 4294967296 := by
  induction n with
  | zero => intro x h; exact h
  | succ n ih => intro x h; exact ih _ (R_lt x h)
theorem Rn_zero (n : Nat) : ∀ x, x < 4294967296 → Rn n x = 0 → x = 0 := by
  induction n with
  | zero => intro x _ h; exact h
  | succ n ih => intro x h h0; exact R_zero x h (ih _ (R_lt x h) h0)
theorem Rn_0 (n : Nat) : Rn n 0 = 0 := by
  induction n with
  | zero => rfl
  | succ n ih => rw [Rn, show R 0 = 0 by rfl, ih]
/-- A burst of up to 32 bits, cut off at the end, leaves the register zero only if there is nothing of it. -/
theorem burst (N from_ P : Nat) (hP : P < 4294967296) (hf : from_ ≤ N) : Rn N (P * 2 ^ from_ % 2 ^ N) = 0 ↔ P * 2 ^ from_ % 2 ^ N = 0 := by
  have e : P * 2 ^ from_ % 2 ^ N = (P % 2 ^ (N - from_)) * 2 ^ from_ := by
    rw [show (2 : Nat) ^ N = 2 ^ (N - from_) * 2 ^ from_ by rw [← Nat.pow_add]; congr 1; omega, Nat.mul_mod_mul_right]
  rw [e]
  constructor
  · intro h
    rw [show N = from_ + (N - from_) by omega, Rn_add, show from_ + (N - from_) - from_ = N - from_ by omega, Rn_high] at h
    have := Rn_zero _ _ (Nat.lt_of_le_of_lt (Nat.mod_le _ _) hP) h
    rw [this, Nat.zero_mul]
  · intro h; rw [h, Rn_0]
end Go.Proofs.Ytdcnpkpibbefhaa
