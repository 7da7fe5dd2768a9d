/- The walk of the reference's Flip and of the law CrcFindsBursts. -/
import Derived.Test.YtdcnpkpibbefhaaCrcAlive
import Derived.Test.YtdcnpkpibbefhaaCrcFlipM
import Derived.Test.YtdcnpkpibbefhaaKit3
namespace Go.Proofs.Ytdcnpkpibbefhaa
open Go.RowKit
theorem own_whole {w : World} {base : Nat} {e : TypeId} {A : Option Addr} {n c : Nat} {xs : List Value} (h : w.ownsRow base e 1 (.slice A n c) n xs) (hn : 0 < n) :
    ∃ g cur, A = some ⟨g, 0, none⟩ ∧ base ≤ g ∧ Blk w g e cur ∧ cur.toList.take n = xs ∧ n ≤ c ∧ cur.size = c ∧ c ≤ maxLen := by
  rcases h.2 with ⟨_, h0⟩ | ⟨g, cap, cur, hv, hb, hg, hnc, hm, hcs, htk⟩
  · omega
  · injection hv with hA _ hc
    subst hc
    exact ⟨g, cur, hA, hb, hg, by simpa using htk, hnc, by omega, hm⟩
/-- Byte j of a string whose bits are inverted. -/
def flc (l : List UInt8) (X j : Nat) : Int := (((l.getD j 0 ^^^ UInt8.ofNat (byteN X j)).toNat : Nat) : Int)
theorem flc_zero (l : List UInt8) (j : Nat) (h : j < l.length) : flc l 0 j = ((l[j]).toNat : Int) := by
  have : byteN 0 j = 0 := by simp [byteN]
  unfold flc
  rw [this]
  simp [List.getD, h]
theorem flc_x2 (l : List UInt8) (X j : Nat) (h : j < l.length) : (bv (x2 l (bytesN l.length X)))[j]? = some (.int .u8 (flc l X j)) := by
  have hb := bytesN_get l.length X j h
  have hj : j < (bytesN l.length X).length := by rw [bytesN_length]; exact h
  have he : (bytesN l.length X)[j] = UInt8.ofNat (byteN X j) := by
    rw [List.getElem?_eq_getElem hj] at hb
    exact Option.some.inj hb
  simp only [bv, List.getElem?_map]
  rw [x2_get l _ j h hj, he]
  unfold flc
  simp [List.getD, h]
theorem ofNat_xor8 (a b : Nat) : UInt8.ofNat (a ^^^ b) = UInt8.ofNat a ^^^ UInt8.ofNat b := by
  apply UInt8.toNat_inj.1
  rw [UInt8.toNat_xor, UInt8.toNat_ofNat', UInt8.toNat_ofNat', UInt8.toNat_ofNat', Nat.xor_mod_two_pow]
theorem flc_same (l : List UInt8) (p f k j : Nat) (h : (f + k) / 8 ≠ j) (hb : p.testBit k = true) : flc l (Xk p f (k + 1)) j = flc l (Xk p f k) j := by
  unfold flc
  rw [Xk_yes p f k hb, byteN_xor, byteN_pow, if_neg h, Nat.xor_zero]
theorem flc_set (l : List UInt8) (p f k : Nat) (hb : p.testBit k = true) : bits .xor .u8 (flc l (Xk p f k) ((f + k) / 8)) ((2 : Int) ^ ((f + k) % 8) % (256 : Int)) = flc l (Xk p f (k + 1)) ((f + k) / 8) := by
  have hlt : 2 ^ ((f + k) % 8) < 256 := by
    have : (f + k) % 8 ≤ 7 := by omega
    have := Nat.pow_le_pow_right (n := 2) (by omega) this
    omega
  have he : (2 : Int) ^ ((f + k) % 8) % (256 : Int) = ((2 ^ ((f + k) % 8) : Nat) : Int) := by
    rw [show (2 : Int) ^ ((f + k) % 8) = ((2 ^ ((f + k) % 8) : Nat) : Int) by simp]
    generalize 2 ^ ((f + k) % 8) = m at hlt
    omega
  rw [he]
  unfold flc
  rw [Xk_yes p f k hb, byteN_xor, byteN_pow, if_pos rfl, u8_xor_nat _ _ (UInt8.toNat_lt _) hlt, ofNat_xor8, ← UInt8.xor_assoc, UInt8.toNat_xor _ (UInt8.ofNat (2 ^ ((f + k) % 8))), UInt8.toNat_ofNat']
  generalize 2 ^ ((f + k) % 8) = m at hlt
  rw [Nat.mod_eq_of_lt (b := 2 ^ 8) (by omega)]
theorem bit_of (p : BitVec 32) (k : Nat) : (N32 p / 2 ^ k).tmod 2 = if p.toNat.testBit k then 1 else 0 := by
  have e : N32 p / (2 : Int) ^ k = ((p.toNat / 2 ^ k : Nat) : Int) := by unfold N32; simp
  rw [Nat.testBit_eq_decide_div_mod_eq, e]
  generalize p.toNat / 2 ^ k = q
  rw [Int.tmod_eq_emod_of_nonneg (Int.natCast_nonneg q)]
  by_cases h : q % 2 = 1
  · rw [decide_eq_true h, if_pos rfl]; omega
  · rw [decide_eq_false h, if_neg (by simp)]; omega
set_option maxHeartbeats 2000000 in
theorem flip_any (w : World) (B : Nat) (A : Option Addr) (cap : Nat) (l : List UInt8) (from_ : Nat) (p : BitVec 32) (hR : Rd w B A (bv l)) (hB : B ≤ w.heap.size) (hl : l.length ≤ 140737488355320) (hf : from_ < 8 * l.length) :
    Calls Try.prog 25 #[.slice A l.length cap, .int .i64 (from_ : Int), .int .u32 (N32 p)] w fun e w' => ∃ A' cap', e = .returned (.slice A' l.length cap') ∧ w'.ownsRow w.heap.size 5 1 (.slice A' l.length cap') l.length (bv (x2 l (bytesN l.length (p.toNat * 2 ^ from_)))) ∧ Below w.heap.size w w' := by
  go_enter Try.func25, Try.ntmps25
  go_wp2_with ((with_reducible refine wpList_app (o := ⟨some 12, _, _, _, _, _⟩) _ ?_ (.tmp 10) (.tmp 11) 23 ?_ w.heap.size 5 (.int .u8 0) 1 Try.underlying23 u8info ?_ (.slice (some ⟨w.heap.size, 0, none⟩) 0 0) 0 [] ?_ (own_empty (Blk.new _ _ _) (Nat.le_refl _)) B A l.length cap (bv l) ?_ (hR.alloc hB _) (bv_length l) bv_one ?_ ?_ ?_ ?_); rfl; rfl; rfl; rfl; rfl; (unfold maxLen; omega); omega; simp; intro A1 c1 w1 hown1 hg1; simp only [Nat.zero_add, List.nil_append] at hown1; have hb1 : Below w.heap.size w w1 := below_of_grown ((Below.refl _ _).alloc (Nat.le_refl _) _) (own_empty (Blk.new _ _ _) (Nat.le_refl _)) hg1 (by simp) (Nat.le_refl _))
  obtain ⟨g, cs0, rfl, hg, hB0, htk, hnc, hcs, hmx⟩ := own_whole hown1 (by omega)
  have hall0 : ∀ j, j < l.length → cs0[j]? = some (.int .u8 (flc l (Xk p.toNat from_ 0) j)) := by
    intro j hj
    have := congrArg (fun ys => ys[j]?) htk
    simp only [List.getElem?_take, if_pos hj, bv_get hj] at this
    rw [Xk_zero, flc_zero l j hj]
    simpa using this
  clear hown1 hg1 htk
  go_loopw [8] (fun i wr => ∃ k : Nat, k ≤ 32 ∧ i = .int .i64 k ∧ Below w.heap.size w wr ∧ ∃ cs : Array Value, Blk wr g 5 cs ∧ cs.size = c1 ∧ ∀ j, j < l.length → cs[j]? = some (.int .u8 (flc l (Xk p.toNat from_ k) j))) (fun i _ => 32 - (intOf i).toNat)
  case atStart => exact ⟨0, by omega, rfl, hb1, cs0, hB0, hcs, hall0⟩
  case round =>
    clear hb1 hB0 hcs hall0
    obtain ⟨k, hk, rfl, hb, cs, hBc, hcs, hall⟩ := hrel
    have Hall := Lib.hid hall
    clear hall
    by_cases h32 : k < 32
    · have hbit := bit_of p k
      have hp := N32_pos p
      have hq := N32_le p
      by_cases hyes : p.toNat.testBit k = true
      · rw [if_pos hyes] at hbit
        have Hyes := Lib.hid hyes
        clear hyes
        by_cases hin : (from_ + k) / 8 < l.length
        · have hc : wr.cell? ⟨g, (from_ + k) / 8, none⟩ = some (.int .u8 (flc l (Xk p.toNat from_ k) ((from_ + k) / 8))) := by
            rw [hBc.cell, Hall.out _ hin]
          have hf := hBc.frozen ((from_ + k) / 8)
          have hi : ((from_ : Int) + k) / 8 < (l.length : Int) := by omega
          go_wp2_with fail
          refine ⟨⟨k + 1, by omega, by go_num, hb.setCell hg _, _, hBc.set_ _ _, by simpa using hcs, fun j hj => ?_⟩, by simp [intOf]; omega⟩
          rw [flc_set l _ _ k Hyes.out]
          by_cases hjk : (from_ + k) / 8 = j
          · subst hjk
            have : (from_ + k) / 8 < cs.size := by omega
            simp [this]
          · rw [Array.getElem?_setIfInBounds_ne hjk, flc_same l _ _ k j hjk Hyes.out]
            exact Hall.out j hj
        · have hi : ¬ ((from_ : Int) + k) / 8 < (l.length : Int) := by omega
          go_wp2_with fail
          refine ⟨⟨k + 1, by omega, by go_num, hb, cs, hBc, hcs, fun j hj => ?_⟩, by simp [intOf]; omega⟩
          rw [flc_same l _ _ k j (by omega) Hyes.out]
          exact Hall.out j hj
      · rw [if_neg hyes] at hbit
        have hno : p.toNat.testBit k = false := by simpa using hyes
        have Hno := Lib.hid hno
        clear hno hyes
        go_wp2_with fail
        refine ⟨⟨k + 1, by omega, by go_num, hb, cs, hBc, hcs, fun j hj => ?_⟩, by simp [intOf]; omega⟩
        rw [Xk_no _ _ k Hno.out]
        exact Hall.out j hj
    · obtain rfl : k = 32 := by omega
      go_wp2_with fail
      go_ret
      refine ⟨_, c1, rfl, ?_, hb⟩
      have hX := Hall.out
      rw [Xk_full _ _ p.isLt] at hX
      have hB2 : Blk wr g 5 cs.toList.toArray := by simpa using hBc
      refine own_of_blk hB2 hg (by simpa using hcs) hnc hmx ?_
      apply List.ext_getElem?
      intro j
      rw [List.getElem?_take]
      by_cases hj : j < l.length
      · rw [if_pos hj, flc_x2 l _ j hj]
        simpa using hX j hj
      · rw [if_neg hj, List.getElem?_eq_none]
        rw [bv_length, x2_length _ _ (by rw [bytesN_length])]
        omega
end Go.Proofs.Ytdcnpkpibbefhaa
