/- The walks of crc.Update, crc.Sum and of the reference's. -/
import Derived.Test.YtdcnpkpibbefhaaCrcTab
namespace Go.Proofs.Ytdcnpkpibbefhaa
open Go.RowKit

theorem xor_byte (x : BitVec 32) (c : UInt8) : bits .xor .u32 (N32 x) (c.toNat : Int) = N32 (x ^^^ b32 c) := by
  have : ((c.toNat : Nat) : Int) = N32 (b32 c) := by
    have := u8_lt c
    simp [b32, N32]
  rw [this, bits_xor32]
def ix (x : BitVec 32) (c : UInt8) : Nat := (x ^^^ b32 c).toNat % 256
theorem ix_lt (x : BitVec 32) (c : UInt8) : ix x c < 256 := by unfold ix; omega
theorem idx_byte (x : BitVec 32) (c : UInt8) : bits .xor .u8 (N32 x % 256) (c.toNat : Int) = (ix x c : Int) := by
  unfold ix
  have hc := u8_lt c
  unfold N32
  rw [show ((x.toNat : Nat) : Int) % (256 : Int) = ((x.toNat % 256 : Nat) : Int) by omega, u8_xor_nat _ _ (by omega) hc]
  congr 1
  rw [BitVec.toNat_xor]
  simp only [b32, BitVec.toNat_ofNat]
  rw [show (256 : Nat) = 2 ^ 8 by rfl, Nat.xor_mod_two_pow, Nat.mod_mod_of_dvd _ (by decide), Nat.mod_eq_of_lt (a := c.toNat) (by omega)]
theorem byte_upd (x : BitVec 32) (c : UInt8) : bits .xor .u32 (N32 (Zn 8 (BitVec.ofNat 32 (ix x c)))) (N32 x / (256 : Int)) = N32 (Zn 8 (x ^^^ b32 c)) := by
  have hc := u8_lt c
  unfold ix
  have e : N32 x / (256 : Int) = N32 ((x ^^^ b32 c) >>> 8) := by
    unfold N32
    rw [show ((x.toNat : Nat) : Int) / (256 : Int) = ((x.toNat / 256 : Nat) : Int) by omega]
    congr 1
    rw [BitVec.toNat_ushiftRight, BitVec.toNat_xor, Nat.shiftRight_xor_distrib]
    simp only [b32, BitVec.toNat_ofNat, Nat.shiftRight_eq_div_pow]
    rw [show c.toNat % 2 ^ 32 / 2 ^ 8 = 0 by omega]
    simp
  rw [e, bits_xor32, byte_step]

set_option maxHeartbeats 1000000 in
theorem upd_any (w : World) (B : Nat) (A : Option Addr) (cap : Nat) (s : BitVec 32) (l : List UInt8) (hR : Rd w B A (bv l)) (hB : B ≤ w.heap.size) (hl : l.length ≤ 9223372036854775807) :
    Calls Try.prog 16 #[.int .u32 (N32 s), .slice A l.length cap] w fun e w' => e = .returned (.int .u32 (N32 (crcU s l))) ∧ Below w.heap.size w w' := by
  have hz := zero51
  go_enter Try.func16, Try.ntmps16
  go_wp2_with (first | (go_at_call 38; refine (table _).mono ?_; rintro e w1 ⟨rfl, hb1⟩) | ((with_reducible refine wpList_store_row (o := ⟨none, .store 51 (.tmp 5) (.tmp 9), _, _, _, _⟩) ?_ 51 (.tmp 5) (.tmp 9) ?_ _ (tabA 256) ?_ ?_ 51 Z256 (Blk.new _ _ _).out (tab_i 256) (tab_z 256) (tabA_one 256) ?_); rfl; rfl; rfl; rfl))
  have hT : Blk ((w1.alloc (Obj.cells Z256 51)).setRow w1.heap.size (tabA 256)) w1.heap.size 51 (tabA 256) := (Blk.new w1 _ Z256).setRow_ _
  have hb2 : Below w.heap.size w ((w1.alloc (Obj.cells Z256 51)).setRow w1.heap.size (tabA 256)) := below_setRow (hb1.alloc hb1.size _) hb1.size _
  have hR2 := hR.below hb2 hB
  generalize (w1.alloc (Obj.cells Z256 51)).setRow w1.heap.size (tabA 256) = W2 at *
  generalize w1.heap.size = g at *
  clear hz hb1 hR
  go_loop [6, 14] (fun t i => ∃ k : Nat, k ≤ l.length ∧ i = .int .i64 k ∧ t = .int .u32 (N32 (crcS (~~~ s) (l.take k)))) (fun _ i => l.length - (intOf i).toNat)
  case atStart => exact ⟨0, by omega, rfl, int_eq (not32 s)⟩
  case round =>
    obtain ⟨k, hk, rfl, rfl⟩ := hrel
    by_cases hlt : k < l.length
    · obtain ⟨b, o, rfl, hbB, hc⟩ := hR2.byte hlt
      have hix := idx_byte (crcS (~~~ s) (l.take k)) (l[k])
      have hi8 := ix_lt (crcS (~~~ s) (l.take k)) l[k]
      have hct : W2.cell? ⟨g, ix (crcS (~~~ s) (l.take k)) l[k], none⟩ = some (.int .u32 (N32 (Zn 8 (BitVec.ofNat 32 (ix (crcS (~~~ s) (l.take k)) l[k]))))) := by
        rw [hT.cell]; exact tabA_full 256 _ rfl hi8
      have hp := N32_pos (crcS (~~~ s) (l.take k))
      have hq := N32_le (crcS (~~~ s) (l.take k))
      have hc8 := u8_lt l[k]
      go_wp2
      have hts := take_snoc l k hlt
      exact ⟨⟨k + 1, by omega, by go_num, int_eq (by rw [hts, crcS_snoc]; exact byte_upd (crcS (~~~ s) (l.take k)) l[k])⟩, by simp [intOf]; omega⟩
    · go_wp2
      go_ret
      have hk : k = l.length := by omega
      refine ⟨ret_eq (int_eq ?_), hb2⟩
      rw [hk, List.take_length, not32]
      rfl

set_option maxHeartbeats 1000000 in
theorem rupd_any (w : World) (B : Nat) (A : Option Addr) (cap : Nat) (s : BitVec 32) (l : List UInt8) (hR : Rd w B A (bv l)) (hl : l.length ≤ 9223372036854775807) :
    Calls Try.prog 17 #[.int .u32 (N32 s), .slice A l.length cap] w fun e w' => e = .returned (.int .u32 (N32 (crcU s l))) ∧ w = w' := by
  go_enter Try.func17, Try.ntmps17
  go_wp2
  go_loop [5, 6] (fun t i => ∃ k : Nat, k ≤ l.length ∧ i = .int .i64 k ∧ t = .int .u32 (N32 (crcS (~~~ s) (l.take k)))) (fun _ i => l.length - (intOf i).toNat)
  case atStart => exact ⟨0, by omega, rfl, int_eq (not32 s)⟩
  case round =>
    obtain ⟨k, hk, rfl, rfl⟩ := hrel
    by_cases hlt : k < l.length
    · obtain ⟨b, o, rfl, hbB, hc⟩ := hR.byte hlt
      have hx := xor_byte (crcS (~~~ s) (l.take k)) l[k]
      have hc8 := u8_lt l[k]
      go_wp2_with (go_at_call 39; refine (step_any _ _ _ _ ⟨by omega, by omega⟩ hx).mono ?_; rintro e w1 ⟨rfl, rfl⟩)
      have hts := take_snoc l k hlt
      exact ⟨⟨k + 1, by omega, by go_num, int_eq (by rw [hts, crcS_snoc])⟩, by simp [intOf]; omega⟩
    · go_wp2_with fail
      go_ret
      have hk : k = l.length := by omega
      refine ⟨ret_eq (int_eq ?_), rfl⟩
      rw [hk, List.take_length, not32]
      rfl

set_option maxHeartbeats 1000000 in
theorem sum_any (w : World) (B : Nat) (A : Option Addr) (cap : Nat) (l : List UInt8) (hR : Rd w B A (bv l)) (hB : B ≤ w.heap.size) (hl : l.length ≤ 9223372036854775807) :
    Calls Try.prog 18 #[.slice A l.length cap] w fun e w' => e = .returned (.int .u32 (N32 (crcU 0#32 l))) ∧ Below w.heap.size w w' := by
  go_enter Try.func18, Try.ntmps18
  go_wp2_with (go_at_call 16; refine (upd_any _ B _ _ 0#32 _ hR hB hl).mono ?_; rintro e w1 ⟨rfl, hb1⟩)
  go_ret
  exact ⟨rfl, hb1⟩
set_option maxHeartbeats 1000000 in
theorem rsum_any (w : World) (B : Nat) (A : Option Addr) (cap : Nat) (l : List UInt8) (hR : Rd w B A (bv l)) (hl : l.length ≤ 9223372036854775807) :
    Calls Try.prog 19 #[.slice A l.length cap] w fun e w' => e = .returned (.int .u32 (N32 (crcU 0#32 l))) ∧ w = w' := by
  go_enter Try.func19, Try.ntmps19
  go_wp2_with (go_at_call 17; refine (rupd_any _ B _ _ 0#32 _ hR hl).mono ?_; rintro e w1 ⟨rfl, rfl⟩)
  go_ret
  exact ⟨rfl, rfl⟩
end Go.Proofs.Ytdcnpkpibbefhaa
