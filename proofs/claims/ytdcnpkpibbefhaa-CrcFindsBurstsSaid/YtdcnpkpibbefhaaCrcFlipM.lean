/- The bits that Flip inverts, as the bytes of one great number; and that the checksum finds them. No program in sight. -/
import Derived.Test.YtdcnpkpibbefhaaCrcBurstM
namespace Go.Proofs.Ytdcnpkpibbefhaa

/-- Byte j of a number. -/
def byteN (X j : Nat) : Nat := X / 256 ^ j % 256
theorem byteN_lt (X j : Nat) : byteN X j < 256 := Nat.mod_lt _ (by omega)
theorem byteN_bit (X j i : Nat) : (byteN X j).testBit i = (decide (i < 8) && X.testBit (i + 8 * j)) := by
  unfold byteN
  rw [show (256 : Nat) = 2 ^ 8 by rfl, ← Nat.pow_mul, Nat.testBit_mod_two_pow, Nat.testBit_div_two_pow]
theorem byteN_xor (X Y j : Nat) : byteN (X ^^^ Y) j = byteN X j ^^^ byteN Y j := by
  apply Nat.eq_of_testBit_eq
  intro i
  rw [Nat.testBit_xor, byteN_bit, byteN_bit, byteN_bit, Nat.testBit_xor]
  cases decide (i < 8) <;> simp
theorem byteN_pow (m j : Nat) : byteN (2 ^ m) j = if m / 8 = j then 2 ^ (m % 8) else 0 := by
  apply Nat.eq_of_testBit_eq
  intro i
  rw [byteN_bit, Nat.testBit_two_pow]
  by_cases h : m / 8 = j
  · rw [if_pos h, Nat.testBit_two_pow]
    by_cases hi : i < 8
    · simp only [hi, decide_true, Bool.true_and, decide_eq_decide]
      omega
    · have : ¬ m % 8 = i := by omega
      simp [hi, this]
  · rw [if_neg h, Nat.zero_testBit]
    by_cases hi : i < 8
    · have : ¬ m = i + 8 * j := by omega
      simp [this]
    · simp [hi]
/-- The bits up to the k-th, laid at place f. -/
def Xk (p f k : Nat) : Nat := (p % 2 ^ k) * 2 ^ f
theorem Xk_zero (p f : Nat) : Xk p f 0 = 0 := by simp [Xk, Nat.mod_one]
theorem Xk_bit (p f k i : Nat) : (Xk p f k).testBit i = (decide (f ≤ i) && (decide (i - f < k) && p.testBit (i - f))) := by
  unfold Xk
  rw [Nat.testBit_mul_two_pow, Nat.testBit_mod_two_pow]
theorem Xk_yes (p f k : Nat) (h : p.testBit k = true) : Xk p f (k + 1) = Xk p f k ^^^ 2 ^ (f + k) := by
  apply Nat.eq_of_testBit_eq
  intro i
  rw [Nat.testBit_xor, Xk_bit, Xk_bit, Nat.testBit_two_pow]
  by_cases h1 : f ≤ i
  · by_cases h2 : f + k = i
    · have e : i - f = k := by omega
      simp [h1, h2, e, h]
    · have e : (i - f < k + 1) ↔ (i - f < k) := by omega
      simp [h1, h2, e]
  · have h2 : ¬ f + k = i := by omega
    simp [h1, h2]
theorem Xk_no (p f k : Nat) (h : p.testBit k = false) : Xk p f (k + 1) = Xk p f k := by
  apply Nat.eq_of_testBit_eq
  intro i
  rw [Xk_bit, Xk_bit]
  by_cases h1 : i - f = k
  · simp [h1, h]
  · have e : (i - f < k + 1) ↔ (i - f < k) := by omega
    simp [e]
theorem Xk_full (p f : Nat) (h : p < 4294967296) : Xk p f 32 = p * 2 ^ f := by
  unfold Xk
  rw [Nat.mod_eq_of_lt h]

/-- The bytes of a number, n of them. -/
def bytesN : Nat → Nat → List UInt8
  | 0, _ => []
  | n + 1, X => UInt8.ofNat (X % 256) :: bytesN n (X / 256)
theorem bytesN_length (n : Nat) : ∀ X, (bytesN n X).length = n := by
  induction n with
  | zero => intro X; rfl
  | succ n ih => intro X; simp [bytesN, ih]
theorem bytesN_get (n : Nat) : ∀ (X j : Nat), j < n → (bytesN n X)[j]? = some (UInt8.ofNat (byteN X j)) := by
  induction n with
  | zero => intro X j h; omega
  | succ n ih =>
    intro X j h
    cases j with
    | zero => simp [bytesN, byteN]
    | succ j =>
      simp only [bytesN, List.getElem?_cons_succ]
      rw [ih _ _ (by omega)]
      unfold byteN
      rw [Nat.div_div_eq_div_mul, Nat.pow_succ, Nat.mul_comm]
theorem val_bytesN (n : Nat) : ∀ X, val (bytesN n X) = X % 2 ^ (8 * n) := by
  induction n with
  | zero => intro X; simp [bytesN, val, Nat.mod_one]
  | succ n ih =>
    intro X
    rw [bytesN, val, ih, UInt8.toNat_ofNat', show 8 * (n + 1) = 8 + 8 * n by omega, Nat.pow_add, Nat.mod_mul]
    rw [show X % 256 % 2 ^ 8 = X % 2 ^ 8 by omega]
theorem val_zero : ∀ l : List UInt8, val l = 0 → l = List.replicate l.length 0
  | [], _ => rfl
  | c :: l, h => by
    have hc : c.toNat = 0 := by unfold val at h; omega
    have hl : val l = 0 := by unfold val at h; omega
    have : c = 0 := UInt8.toNat_inj.1 (by simpa using hc)
    rw [List.length_cons, List.replicate_succ, ← val_zero l hl, this]
theorem x2_zero : ∀ l : List UInt8, x2 l (List.replicate l.length 0) = l
  | [] => rfl
  | c :: l => by
    rw [List.length_cons, List.replicate_succ, x2, x2_zero l]
    simp
theorem x2_eq_iff : ∀ (l e : List UInt8), l.length = e.length → (x2 l e = l ↔ val e = 0)
  | [], [], _ => by simp [x2, val]
  | c :: l, d :: e, h => by
    have ih := x2_eq_iff l e (by simpa using h)
    rw [x2, List.cons.injEq, ih, val]
    constructor
    · rintro ⟨h1, h2⟩
      have : d = 0 := by
        have h3 : c ^^^ (c ^^^ d) = c ^^^ c := by rw [h1]
        rw [← UInt8.xor_assoc, UInt8.xor_self, UInt8.zero_xor] at h3
        exact h3
      rw [this, h2]; rfl
    · intro h0
      have h1 : d.toNat = 0 := by omega
      have h2 : d = 0 := UInt8.toNat_inj.1 (by simpa using h1)
      exact ⟨by rw [h2]; simp, by omega⟩
  | [], _ :: _, h => by simp at h
  | _ :: _, [], h => by simp at h

/-- Four bytes as a word. -/
def word4 (q : List UInt8) : BitVec 32 := BitVec.ofNat 32 (val q)
theorem crcS_four (s : BitVec 32) (q : List UInt8) (hq : q.length = 4) : (crcS s q).toNat = Rn 32 (s.toNat ^^^ val q) := by
  rw [crcS_val, hq]
theorem val_lt4 : ∀ (q : List UInt8), val q < 2 ^ (8 * q.length)
  | [] => by simp [val]
  | c :: l => by
    have := val_lt4 l
    have hc := c.toNat_lt
    rw [val, List.length_cons, show 8 * (l.length + 1) = 8 + 8 * l.length by omega, Nat.pow_add]
    have : 256 * (val l + 1) ≤ 256 * 2 ^ (8 * l.length) := Nat.mul_le_mul_left _ (by omega)
    omega
theorem val_leN4 (x : BitVec 32) : val (leN 4 x) = x.toNat := by
  have hx := x.isLt
  have e : leN 4 x = [le1 0 x, le1 1 x, le1 2 x, le1 3 x] := rfl
  rw [e]
  simp only [val, le1, UInt8.toNat_ofNat']
  omega
theorem val_inj : ∀ (a b : List UInt8), a.length = b.length → val a = val b → a = b
  | [], [], _, _ => rfl
  | c :: l, d :: m, h, hv => by
    unfold val at hv
    have hc := c.toNat_lt
    have hd := d.toNat_lt
    have e1 : c.toNat = d.toNat := by omega
    have e2 : val l = val m := by omega
    rw [UInt8.toNat_inj.1 e1, val_inj l m (by simpa using h) e2]
  | [], _ :: _, h, _ => by simp at h
  | _ :: _, [], h, _ => by simp at h
theorem xor_cancel (a b c : Nat) (h : a ^^^ b = a ^^^ c) : b = c := by
  have : a ^^^ (a ^^^ b) = a ^^^ (a ^^^ c) := by rw [h]
  rwa [← Nat.xor_assoc, ← Nat.xor_assoc, Nat.xor_self, Nat.zero_xor, Nat.zero_xor] at this
/-- The register behind a string with its right checksum. -/
def Kres : Nat := Rn 32 4294967295
theorem residue (p q : List UInt8) (hq : q.length = 4) : leN 4 (crcU 0#32 p) = q ↔ (crcS (~~~ 0#32) (p ++ q)).toNat = Kres := by
  rw [crcS_append, crcS_four _ _ hq]
  generalize hs : crcS (~~~ 0#32) p = s
  have hu : crcU 0#32 p = ~~~ s := by unfold crcU; rw [hs]
  have hvq := val_lt4 q
  rw [hq] at hvq
  have hsn : s.toNat ^^^ (~~~ s).toNat = 4294967295 := by
    rw [← BitVec.toNat_xor]
    have : s ^^^ ~~~ s = BitVec.allOnes 32 := by
      apply BitVec.eq_of_getLsbD_eq
      intro i hi
      rw [BitVec.getLsbD_xor, BitVec.getLsbD_not, BitVec.getLsbD_allOnes]
      cases s.getLsbD i <;> simp [hi]
    rw [this]; rfl
  rw [hu]
  constructor
  · intro h
    rw [← h, val_leN4, hsn]; rfl
  · intro h
    unfold Kres at h
    have hz : Rn 32 ((s.toNat ^^^ val q) ^^^ 4294967295) = 0 := by rw [Rn_xor, h, Nat.xor_self]
    have hlt : (s.toNat ^^^ val q) ^^^ 4294967295 < 4294967296 := by
      have h1 : s.toNat ^^^ val q < 2 ^ 32 := Nat.xor_lt_two_pow s.isLt (by simpa using hvq)
      exact Nat.xor_lt_two_pow h1 (by omega)
    have he := xor_zero_eq (Rn_zero 32 _ hlt hz)
    have hv : val q = (~~~ s).toNat := xor_cancel s.toNat _ _ (he.trans hsn.symm)
    exact val_inj _ _ (by rw [hq]; exact leN_length 4 _) (by rw [val_leN4, hv])
theorem checkB_iff (l : List UInt8) (h : 4 ≤ l.length) : checkB l = true ↔ (crcS (~~~ 0#32) l).toNat = Kres := by
  unfold checkB
  rw [decide_eq_true h, Bool.true_and, decide_eq_true_iff]
  have hl : l = l.take (l.length - 4) ++ l.drop (l.length - 4) := (List.take_append_drop _ _).symm
  have hr := residue (l.take (l.length - 4)) (l.drop (l.length - 4)) (by simp; omega)
  rw [← hl] at hr
  rw [← hr]
  unfold withCrc
  constructor
  · intro h1
    exact List.append_cancel_left (h1.trans hl)
  · intro h1
    rw [h1, ← hl]
theorem checkB_withCrc (l : List UInt8) : checkB (withCrc l) = true := by
  unfold checkB
  rw [decide_eq_true (by rw [withCrc_length]; omega), Bool.true_and, decide_eq_true_iff, withCrc_length, show l.length + 4 - 4 = l.length by omega]
  have : (withCrc l).take l.length = l := by simp [withCrc]
  rw [this]
/-- A burst of up to 32 bits in a string with its checksum is found, exactly if there is anything of it. -/
theorem finds (c : List UInt8) (p f : Nat) (hc : 4 ≤ c.length) (hk : checkB c = true) (hp : p < 4294967296) (hf : f ≤ 8 * c.length) :
    checkB (x2 c (bytesN c.length (p * 2 ^ f))) = decide (c = x2 c (bytesN c.length (p * 2 ^ f))) := by
  have hlen : c.length = (bytesN c.length (p * 2 ^ f)).length := (bytesN_length _ _).symm
  have hx : (x2 c (bytesN c.length (p * 2 ^ f))).length = c.length := x2_length _ _ hlen
  have h1 := (checkB_iff c hc).1 hk
  have h2 := checkB_iff (x2 c (bytesN c.length (p * 2 ^ f))) (by omega)
  have h3 := crcS_x2 c (bytesN c.length (p * 2 ^ f)) (~~~ 0#32) 0#32 hlen
  rw [BitVec.xor_zero] at h3
  have h4 := x2_eq_iff c _ hlen
  rw [val_bytesN] at h4
  have h5 := burst (8 * c.length) f p hp hf
  have h6 : (crcS 0#32 (bytesN c.length (p * 2 ^ f))).toNat = Rn (8 * c.length) (p * 2 ^ f % 2 ^ (8 * c.length)) := by
    rw [crcS_val, bytesN_length, val_bytesN]; simp
  rw [Bool.eq_iff_iff, decide_eq_true_iff, h2, h3, BitVec.toNat_xor, h1, h6]
  constructor
  · intro h
    have h7 : Rn (8 * c.length) (p * 2 ^ f % 2 ^ (8 * c.length)) = 0 := xor_cancel Kres _ _ (by rw [h, Nat.xor_zero])
    exact (h4.2 (h5.1 h7)).symm
  · intro h
    rw [h5.2 (h4.1 h.symm), Nat.xor_zero]
end Go.Proofs.Ytdcnpkpibbefhaa
