/- Lemmas and contracts of functions, several texts in one: CrcTab Crc CrcApp CrcRef CrcRef2 CrcFlip CrcD. -/
import Derived.Test.YtgaadmgcjnikkaaProg
import Derived.Test.YtgaadmgcjnikkaaGA
import Derived.Test.YtgaadmgcjnikkaaGP
import Derived.Laws.CopyOwn
import Derived.Maps.AppendAt
import Derived.Deep.QuietTactic
import Derived.BigQuiet
import Derived.Test.YtgaadmgcjnikkaaGC
/- The walks of crc.table and of the reference's step. -/
namespace Go.Proofs.Ytgaadmgcjnikkaa
open Go.RowKit

def Z256 : Array Value := Array.replicate 256 (.int .u32 0)
def tabV (i : Nat) : Value := .int .u32 (N32 (Zn 8 (BitVec.ofNat 32 i)))
def tabA (k : Nat) : Array Value := Array.ofFn (n := 256) fun i => if i.val < k then tabV i.val else .int .u32 0
theorem tabA_zero : Z256 = tabA 0 := by
  unfold Z256 tabA
  apply Array.ext
  · simp
  · intro i h1 h2; simp
theorem tabA_set (k : Nat) (_hk : k < 256) : (tabA k).setIfInBounds k (tabV k) = tabA (k + 1) := by
  apply Array.ext
  · simp [tabA]
  · intro i h1 h2
    have hi : i < (tabA k).size := by simpa using h1
    rw [Array.getElem_setIfInBounds hi]
    simp only [tabA, Array.getElem_ofFn]
    by_cases h : k = i
    · subst h; simp
    · have : i < k + 1 ↔ i < k := by omega
      rw [if_neg h]; simp only [this]
theorem tabA_get (k : Nat) (hk : k < 256) : (tabA k)[k]? = some (.int .u32 0) := by
  unfold tabA; simp [hk]
theorem tabA_full (k i : Nat) (hk : k = 256) (hi : i < 256) : (tabA k)[i]? = some (tabV i) := by
  subst hk; unfold tabA; simp [hi]
theorem size_tabA (k : Nat) : (tabA k).size = 256 := by simp [tabA]
theorem tabA_one (k : Nat) : (tabA k).all (·.oneCell') = true := by
  rw [Array.all_eq_true_iff_forall_mem]; intro x hx; simp [tabA] at hx; obtain ⟨i, rfl⟩ := hx; split <;> rfl
theorem zero51 (w : World) : (zeroValue 136).run Try.prog w = .ok (.agg Z256) w := by kernel_rfl
theorem size51 : (Try.prog.info? 136).map (·.size) = some 256 := by kernel_rfl
theorem tab_i (k : Nat) : Option.map (fun x => x.size) (Try.prog.info? 136) = some (tabA k).size := by rw [size51, size_tabA]
theorem tab_z (k : Nat) : Z256.size = (tabA k).size := by rw [size_tabA]; simp [Z256]

theorem neg_bit (x : BitVec 32) : (bits .and .u32 3988292384 ((- (bits .and .u32 (N32 x) 1)) % 4294967296)) = N32 (if x.getLsbD 0 then 0xedb88320#32 else 0#32) := by
  have e3 : N32 (x &&& 1#32) = ((x.toNat % 2 : Nat) : Int) := by
    unfold N32
    rw [BitVec.toNat_and]
    exact congrArg _ (Nat.and_one_is_mod _)
  rw [show (1 : Int) = N32 (1#32) by rfl, bits_and32, e3, lsb0, show (3988292384 : Int) = N32 (0xedb88320#32) by rfl]
  by_cases h : x.toNat % 2 = 1
  · rw [h, decide_eq_true rfl]
    rw [show (-((1 : Nat) : Int)) % 4294967296 = N32 (4294967295#32) by decide, bits_and32]
    rfl
  · rw [show x.toNat % 2 = 0 by omega, decide_eq_false (by omega)]
    rw [show (-((0 : Nat) : Int)) % 4294967296 = N32 (0#32) by decide, bits_and32]
    rfl
theorem half32 (x : BitVec 32) : N32 x / (2 : Int) = N32 (x >>> 1) := by unfold N32; rw [shr1]; omega
theorem Z_eq (x : BitVec 32) : bits .xor .u32 (N32 x / 2) (bits .and .u32 3988292384 ((- (bits .and .u32 (N32 x) 1)) % 4294967296)) = N32 (Z x) := by
  rw [neg_bit, half32, bits_xor32]
  rfl
theorem Z_one (x : BitVec 32) (h : (N32 x % 2 == 1) = true) : bits .xor .u32 (N32 x / 2) 3988292384 = N32 (Z x) := by
  have h' : x.toNat % 2 = 1 := by simp [N32] at h; omega
  rw [half32, show (3988292384 : Int) = N32 (0xedb88320#32) by rfl, bits_xor32, ← Z_odd _ h']
theorem Z_nil (x : BitVec 32) (h : (N32 x % 2 == 1) = false) : N32 x / 2 = N32 (Z x) := by
  have h' : ¬ x.toNat % 2 = 1 := by simp [N32] at h; omega
  unfold N32
  rw [Z_even _ h']; omega
set_option maxHeartbeats 1000000
set_option maxRecDepth 20000 in
theorem table (w : World) : Calls Try.prog 95 #[] w fun e w' => e = .returned (.agg (tabA 256)) ∧ Below w.heap.size w w' := by
  have hz := zero51
  go_enter Try.func95, Try.ntmps95
  go_wp2
  go_loopw [4] (fun i wr => ∃ k : Nat, k ≤ 256 ∧ i = .int .i64 k ∧ Below w.heap.size w wr ∧ Blk wr (w.heap.size + 1) 136 (tabA k) ∧ Blk wr (w.heap.size) 136 (Z256)) (fun i _ => 256 - (intOf i).toNat)
  case atStart =>
    refine ⟨0, by omega, rfl, ((Below.refl _ _).alloc (Nat.le_refl _) _).alloc (by simp) _, ?_, (Blk.new w _ _).alloc _⟩
    rw [← tabA_zero]
    exact Blk.new_ _ _ _ (by simp)
  case round =>
    clear hz
    obtain ⟨k, hk, rfl, hb, h1, h0⟩ := hrel
    by_cases h8 : k < 256
    · have hc : wr.cell? ⟨w.heap.size + 1, k, none⟩ = some (.int .u32 0) := by rw [h1.cell, tabA_get k h8]
      have hf : wr.frozen? ⟨w.heap.size + 1, k, none⟩ = false := h1.frozen k
      go_wp2
      go_loop [3, 9] (fun s i => ∃ j : Nat, j ≤ 8 ∧ i = .int .i64 j ∧ s = .int .u32 (N32 (Zn j (BitVec.ofNat 32 k)))) (fun _ i => 8 - (intOf i).toNat)
      case atStart => exact ⟨0, by omega, rfl, int_eq (by simp [Zn, N32]; omega)⟩
      case round =>
        obtain ⟨j, hj, rfl, rfl, rfl⟩ := hrel
        by_cases hj8 : j < 8
        · have hp := N32_pos (Zn j (BitVec.ofNat 32 k))
          go_wp2
          exact ⟨⟨j + 1, by omega, by go_num, int_eq (Z_eq (Zn j (BitVec.ofNat 32 k)))⟩, by simp [intOf]; omega⟩
        · go_wp2
          obtain rfl : j = 8 := by omega
          go_roundw
          case rel => exact ⟨k + 1, by omega, by go_num, hb.setCell (by simp) _, by rw [← tabA_set k h8]; exact h1.set_ k _, h0.far (by simp) _⟩
          case measure => simp [intOf]; omega
    · go_wp2_with (first | ((with_reducible refine wpList_load_row (o := ⟨some 23, .load 136 (.tmp 1), _, _, _, _⟩) ?_ 136 (.tmp 1) ?_ (w.heap.size + 1) ?_ 136 (tabA k) (0, 0) _ h1.out Try.underlying136 ?_ (tab_i k) ?_); rfl; rfl; rfl; rfl) | ((with_reducible refine wpList_store_row (o := ⟨none, .store 136 (.tmp 0) (.tmp 23), _, _, _, _⟩) ?_ 136 (.tmp 0) (.tmp 23) ?_ w.heap.size (tabA k) ?_ ?_ 136 Z256 h0.out (tab_i k) (tab_z k) (tabA_one k) ?_); rfl; rfl; rfl; rfl))
      have hk : k = 256 := by omega
      refine bodyPost_ret (results_cell_row (P := Try.prog) rfl _ _ w.heap.size 136 (tabA k) (0, 0) _ rfl (h0.setRow_ (tabA k)) Try.underlying136 rfl (tab_i k)) rfl ⟨by rw [hk], below_setRow hb (Nat.le_refl _) _⟩

set_option maxHeartbeats 1000000 in
theorem step_any (w : World) (x y : BitVec 32) (c : Int) (_hc : 0 ≤ c ∧ c < 256) (hy : bits .xor .u32 (N32 x) c = N32 y) :
    Calls Try.prog 94 #[.int .u32 (N32 x), .int .u8 c] w fun e w' => e = .returned (.int .u32 (N32 (Zn 8 y))) ∧ w = w' := by
  go_enter Try.func94, Try.ntmps94
  go_wp2
  clear hy
  go_loop [0, 5] (fun s i => ∃ k : Nat, k ≤ 8 ∧ i = .int .i64 k ∧ s = .int .u32 (N32 (Zn k y))) (fun _ i => 8 - (intOf i).toNat)
  case atStart => exact ⟨0, by omega, rfl, rfl⟩
  case round =>
    obtain ⟨k, hk, rfl, rfl⟩ := hrel
    by_cases h8 : k < 8
    · have hp := N32_pos (Zn k y)
      have hq := N32_le (Zn k y)
      go_wp2
      · exact ⟨⟨k + 1, by omega, by go_num, int_eq (Z_one (Zn k y) (by assumption))⟩, by simp [intOf]; omega⟩
      · exact ⟨⟨k + 1, by omega, by go_num, int_eq (Z_nil (Zn k y) (by assumption))⟩, by simp [intOf]; omega⟩
    · go_wp2
      go_ret
      obtain rfl : k = 8 := by omega
      exact ⟨rfl, rfl⟩
end Go.Proofs.Ytgaadmgcjnikkaa
/- The walks of crc.Update, crc.Sum and of the reference's. -/
namespace Go.Proofs.Ytgaadmgcjnikkaa
open Go.RowKit

theorem xor_byte (x : BitVec 32) (c : UInt8) : bits .xor .u32 (N32 x) (c.toNat : Int) = N32 (x ^^^ b32 c) := by
  have : ((c.toNat : Nat) : Int) = N32 (b32 c) := by
    have := u8_lt c
    simp [b32, N32]
  rw [this, bits_xor32]
def ix (x : BitVec 32) (c : UInt8) : Nat := (x ^^^ b32 c).toNat % 256
theorem ix_lt (x : BitVec 32) (c : UInt8) : ix x c < 256 := by unfold ix; omega
theorem idx_byte (x : BitVec 32) (c : UInt8) : bits .xor .u8 (N32 x % 256) (c.toNat : Int) = (ix x c : Int) := by
  unfold ix
  have hc := u8_lt c
  unfold N32
  rw [show ((x.toNat : Nat) : Int) % (256 : Int) = ((x.toNat % 256 : Nat) : Int) by omega, u8_xor_nat _ _ (by omega) hc]
  congr 1
  rw [BitVec.toNat_xor]
  simp only [b32, BitVec.toNat_ofNat]
  rw [show (256 : Nat) = 2 ^ 8 by rfl, Nat.xor_mod_two_pow, Nat.mod_mod_of_dvd _ (by decide), Nat.mod_eq_of_lt (a := c.toNat) (by omega)]
theorem byte_upd (x : BitVec 32) (c : UInt8) : bits .xor .u32 (N32 (Zn 8 (BitVec.ofNat 32 (ix x c)))) (N32 x / (256 : Int)) = N32 (Zn 8 (x ^^^ b32 c)) := by
  have hc := u8_lt c
  unfold ix
  have e : N32 x / (256 : Int) = N32 ((x ^^^ b32 c) >>> 8) := by
    unfold N32
    rw [show ((x.toNat : Nat) : Int) / (256 : Int) = ((x.toNat / 256 : Nat) : Int) by omega]
    congr 1
    rw [BitVec.toNat_ushiftRight, BitVec.toNat_xor, Nat.shiftRight_xor_distrib]
    simp only [b32, BitVec.toNat_ofNat, Nat.shiftRight_eq_div_pow]
    rw [show c.toNat % 2 ^ 32 / 2 ^ 8 = 0 by omega]
    simp
  rw [e, bits_xor32, byte_step]

set_option maxHeartbeats 1000000 in
theorem upd_any (w : World) (B : Nat) (A : Option Addr) (cap : Nat) (s : BitVec 32) (l : List UInt8) (hR : Rd w B A (bv l)) (hB : B ≤ w.heap.size) (hl : l.length ≤ 9223372036854775807) :
    Calls Try.prog 93 #[.int .u32 (N32 s), .slice A l.length cap] w fun e w' => e = .returned (.int .u32 (N32 (crcU s l))) ∧ Below w.heap.size w w' := by
  have hz := zero51
  go_enter Try.func93, Try.ntmps93
  go_wp2_with (first | (go_at_call 95; refine (table _).mono ?_; rintro e w1 ⟨rfl, hb1⟩) | ((with_reducible refine wpList_store_row (o := ⟨none, .store 136 (.tmp 5) (.tmp 9), _, _, _, _⟩) ?_ 136 (.tmp 5) (.tmp 9) ?_ _ (tabA 256) ?_ ?_ 136 Z256 (Blk.new _ _ _).out (tab_i 256) (tab_z 256) (tabA_one 256) ?_); rfl; rfl; rfl; rfl))
  have hT : Blk ((w1.alloc (Obj.cells Z256 136)).setRow w1.heap.size (tabA 256)) w1.heap.size 136 (tabA 256) := (Blk.new w1 _ Z256).setRow_ _
  have hb2 : Below w.heap.size w ((w1.alloc (Obj.cells Z256 136)).setRow w1.heap.size (tabA 256)) := below_setRow (hb1.alloc hb1.size _) hb1.size _
  have hR2 := hR.below hb2 hB
  generalize (w1.alloc (Obj.cells Z256 136)).setRow w1.heap.size (tabA 256) = W2 at *
  generalize w1.heap.size = g at *
  clear hz hb1 hR
  go_loop [6, 14] (fun t i => ∃ k : Nat, k ≤ l.length ∧ i = .int .i64 k ∧ t = .int .u32 (N32 (crcS (~~~ s) (l.take k)))) (fun _ i => l.length - (intOf i).toNat)
  case atStart => exact ⟨0, by omega, rfl, int_eq (not32 s)⟩
  case round =>
    obtain ⟨k, hk, rfl, rfl⟩ := hrel
    by_cases hlt : k < l.length
    · obtain ⟨b, o, rfl, hbB, hc⟩ := hR2.byte hlt
      have hix := idx_byte (crcS (~~~ s) (l.take k)) (l[k])
      have hi8 := ix_lt (crcS (~~~ s) (l.take k)) l[k]
      have hct : W2.cell? ⟨g, ix (crcS (~~~ s) (l.take k)) l[k], none⟩ = some (.int .u32 (N32 (Zn 8 (BitVec.ofNat 32 (ix (crcS (~~~ s) (l.take k)) l[k]))))) := by
        rw [hT.cell]; exact tabA_full 256 _ rfl hi8
      have hp := N32_pos (crcS (~~~ s) (l.take k))
      have hq := N32_le (crcS (~~~ s) (l.take k))
      have hc8 := u8_lt l[k]
      go_wp2
      have hts := take_snoc l k hlt
      exact ⟨⟨k + 1, by omega, by go_num, int_eq (by rw [hts, crcS_snoc]; exact byte_upd (crcS (~~~ s) (l.take k)) l[k])⟩, by simp [intOf]; omega⟩
    · go_wp2
      go_ret
      have hk : k = l.length := by omega
      refine ⟨ret_eq (int_eq ?_), hb2⟩
      rw [hk, List.take_length, not32]
      rfl

set_option maxHeartbeats 1000000 in
theorem rupd_any (w : World) (B : Nat) (A : Option Addr) (cap : Nat) (s : BitVec 32) (l : List UInt8) (hR : Rd w B A (bv l)) (hl : l.length ≤ 9223372036854775807) :
    Calls Try.prog 89 #[.int .u32 (N32 s), .slice A l.length cap] w fun e w' => e = .returned (.int .u32 (N32 (crcU s l))) ∧ w = w' := by
  go_enter Try.func89, Try.ntmps89
  go_wp2
  go_loop [5, 6] (fun t i => ∃ k : Nat, k ≤ l.length ∧ i = .int .i64 k ∧ t = .int .u32 (N32 (crcS (~~~ s) (l.take k)))) (fun _ i => l.length - (intOf i).toNat)
  case atStart => exact ⟨0, by omega, rfl, int_eq (not32 s)⟩
  case round =>
    obtain ⟨k, hk, rfl, rfl⟩ := hrel
    by_cases hlt : k < l.length
    · obtain ⟨b, o, rfl, hbB, hc⟩ := hR.byte hlt
      have hx := xor_byte (crcS (~~~ s) (l.take k)) l[k]
      have hc8 := u8_lt l[k]
      go_wp2_with (go_at_call 94; refine (step_any _ _ _ _ ⟨by omega, by omega⟩ hx).mono ?_; rintro e w1 ⟨rfl, rfl⟩)
      have hts := take_snoc l k hlt
      exact ⟨⟨k + 1, by omega, by go_num, int_eq (by rw [hts, crcS_snoc])⟩, by simp [intOf]; omega⟩
    · go_wp2_with fail
      go_ret
      have hk : k = l.length := by omega
      refine ⟨ret_eq (int_eq ?_), rfl⟩
      rw [hk, List.take_length, not32]
      rfl

set_option maxHeartbeats 1000000 in
theorem sum_any (w : World) (B : Nat) (A : Option Addr) (cap : Nat) (l : List UInt8) (hR : Rd w B A (bv l)) (hB : B ≤ w.heap.size) (hl : l.length ≤ 9223372036854775807) :
    Calls Try.prog 87 #[.slice A l.length cap] w fun e w' => e = .returned (.int .u32 (N32 (crcU 0#32 l))) ∧ Below w.heap.size w w' := by
  go_enter Try.func87, Try.ntmps87
  go_wp2_with (go_at_call 93; refine (upd_any _ B _ _ 0#32 _ hR hB hl).mono ?_; rintro e w1 ⟨rfl, hb1⟩)
  go_ret
  exact ⟨rfl, hb1⟩
set_option maxHeartbeats 1000000 in
theorem rsum_any (w : World) (B : Nat) (A : Option Addr) (cap : Nat) (l : List UInt8) (hR : Rd w B A (bv l)) (hl : l.length ≤ 9223372036854775807) :
    Calls Try.prog 82 #[.slice A l.length cap] w fun e w' => e = .returned (.int .u32 (N32 (crcU 0#32 l))) ∧ w = w' := by
  go_enter Try.func82, Try.ntmps82
  go_wp2_with (go_at_call 89; refine (rupd_any _ B _ _ 0#32 _ hR hl).mono ?_; rintro e w1 ⟨rfl, rfl⟩)
  go_ret
  exact ⟨rfl, rfl⟩
end Go.Proofs.Ytgaadmgcjnikkaa
/- The walks of crc.Append, crc.Check and of the reference's. -/
namespace Go.Proofs.Ytgaadmgcjnikkaa
open Go.RowKit
set_option maxHeartbeats 1000000 in
theorem eq_any (w : World) (B B' : Nat) (A A' : Option Addr) (cap cap' : Nat) (l l' : List UInt8) (hR : Rd w B A (bv l)) (hR' : Rd w B' A' (bv l')) :
    Calls Try.prog 26 #[.slice A l.length cap, .slice A' l'.length cap'] w fun e w' => e = .returned (.bool (decide (l = l'))) ∧ w = w' := by
  have h1 := run_str (P := Try.prog) w hR 24 9 5 Try.underlying24 Try.underlying5 Try.underlying9 cap
  have h2 := run_str (P := Try.prog) w hR' 24 9 5 Try.underlying24 Try.underlying5 Try.underlying9 cap'
  have h3 := bstr_beq l l'
  go_enter Try.func26, Try.ntmps26
  go_wp2
  go_ret
  exact ⟨rfl, rfl⟩

theorem u8info : (Try.prog.info? 5).map (fun i => (i.zero, i.size, i.bytes)) = some (some (.int .u8 0), 1, 1) := by kernel_rfl
theorem u8one : (Try.prog.info? 5).map (·.size) = some 1 := by kernel_rfl
theorem mk_bytes (n c : Nat) (hnc : n ≤ c) (h : c ≤ 281474976710656) (w : World) :
    (Instr.makeSlice 24 (.int .i64 (n : Int)) (.int .i64 (c : Int))).run Try.prog w = .ok (.slice (some ⟨w.heap.size, 0, none⟩) n c) (w.alloc (.cells (zeros c).toArray 5)) := by
  obtain ⟨i, hi, hz, hs, hb⟩ := info_parts u8info
  exact run_mk 24 5 i Try.underlying24 hi hz hs hb n c hnc h w

theorem copy_src {w : World} {B : Nat} {A : Option Addr} {l : List UInt8} (hR : Rd w B A (bv l)) (hB : B ≤ w.heap.size) (o : Obj) (h : 0 < (bv l).length) :
    some (⟨w.heap.size, 0, none⟩ : Addr) = some ⟨w.heap.size, 0, none⟩ ∧ ∃ ad, A = some ad ∧ ∀ (j : Nat) (v : Value), (bv l)[j]? = some v → (w.alloc o).cell? (ad.add j) = some v := by
  rw [bv_length] at h
  obtain ⟨b, o', rfl, _, _⟩ := hR.byte h
  refine ⟨rfl, _, rfl, fun j v hv => ?_⟩
  obtain ⟨b2, o2, e, _, hc⟩ := (hR.alloc hB o) j v hv
  cases e
  rw [Addr.add_lit]
  exact hc
theorem one_u8 (n : Int) : ∀ u ∈ [Value.int .u8 n], u.oneCell' = true := by
  intro u hu
  obtain rfl : u = .int .u8 n := by simpa using hu
  rfl
theorem shr8 (x : BitVec 32) (k : Nat) : N32 (x >>> (8 * k)) / (256 : Int) = N32 (x >>> (8 * (k + 1))) := by
  unfold N32
  rw [BitVec.toNat_ushiftRight, BitVec.toNat_ushiftRight, Nat.shiftRight_eq_div_pow, Nat.shiftRight_eq_div_pow, show 8 * (k + 1) = 8 * k + 8 by omega, Nat.pow_add, ← Nat.div_div_eq_div_mul]
  omega
theorem bv_snoc (l : List UInt8) (k : Nat) (x : BitVec 32) : bv (l ++ leN k x) ++ [Value.int .u8 (N32 (x >>> (8 * k)) % (256 : Int))] = bv (l ++ leN (k + 1) x) := by
  rw [leN, ← List.append_assoc, bv_append _ [le1 k x]]
  congr 2
  unfold N32 le1
  rw [BitVec.toNat_ushiftRight, Nat.shiftRight_eq_div_pow, Nat.pow_mul]
  simp
set_option maxRecDepth 100000 in
set_option maxHeartbeats 1000000 in
theorem app_any (w : World) (B : Nat) (A : Option Addr) (cap : Nat) (l : List UInt8) (hR : Rd w B A (bv l)) (hB : B ≤ w.heap.size) (hl : l.length ≤ 140737488355328) :
    Calls Try.prog 73 #[.slice A l.length cap] w fun e w' => ∃ A' cap', e = .returned (.slice A' (l.length + 4) cap') ∧ w'.ownsRow w.heap.size 5 1 (.slice A' (l.length + 4) cap') (l.length + 4) (bv (withCrc l)) ∧ Below w.heap.size w w' := by
  have hmk := mk_bytes l.length (l.length + 4) (by omega) (by omega)
  have ec : ((l.length + 4 : Nat) : Int) = (l.length : Int) + 4 := by omega
  rw [ec] at hmk
  clear ec
  have hcs : (bv l).length = Nat.min l.length l.length := by rw [bv_length]; exact (Nat.min_self _).symm
  have hfit : 0 + (bv l).length ≤ (zeros (l.length + 4)).length := by rw [bv_length, zeros_length]; omega
  have Hcs := Lib.hid hcs
  clear hcs
  go_enter Try.func73, Try.ntmps73
  go_wp2_with (first | ((with_reducible refine wpList_copy_splice (o := ⟨some 13, _, _, _, _, _⟩) ?_ (.tmp 11) (.tmp 12) 24 24 ?_ 5 Try.underlying24 u8one (some ⟨w.heap.size, 0, none⟩) A l.length (l.length + 4) l.length cap ?_ ?_ w.heap.size 0 (zeros (l.length + 4)) 5 (Blk.new _ _ _).out (bv l) Hcs.out ?_ hfit bv_one w.heap.size w ((Below.refl _ _).alloc (Nat.le_refl _) _) (Nat.le_refl _) ?_); rfl; rfl; rfl; rfl; exact (copy_src hR hB _); intro w1 hg1 hb1) | (go_at_call 87; refine (sum_any _ B _ _ l (hR.below hb1 hB) (Nat.le_trans hB hb1.size) (by omega)).mono ?_; rintro e w2 ⟨rfl, hb2⟩))
  have hg2 : Blk w1 w.heap.size 5 (splice (zeros (l.length + 4)) 0 (bv l)).toArray := hg1.out
  have hb3 : Below w.heap.size w w2 := hb1.trans (hb2.mono hb1.size)
  have hg3 := hg2.below hb2 hg2.lt
  have hlen : (splice (zeros (l.length + 4)) 0 (bv l)).length = l.length + 4 := by rw [length_splice _ _ _ hfit, zeros_length]
  have htk : (splice (zeros (l.length + 4)) 0 (bv l)).take l.length = bv l := by simp [splice, bv_length]
  have hown : w2.ownsRow w.heap.size 5 1 (.slice (some ⟨w.heap.size, 0, none⟩) l.length (l.length + 4)) l.length (bv l) :=
    own_of_blk hg3 (Nat.le_refl _) hlen (by omega) (by unfold maxLen; omega) htk
  clear hmk hg1 hg2 hg3 hb1 hb2 hlen htk hfit Hcs hR
  obtain ⟨x, hx⟩ : ∃ x, x = crcU 0#32 l := ⟨_, rfl⟩
  rw [← hx]
  have Hx := Lib.hid hx
  clear hx
  obtain ⟨i0, hi0, hz0, hs0, hby0⟩ := info_parts u8info
  go_loopw [3, 4, 16] (fun v s i wr => ∃ k : Nat, k ≤ 4 ∧ i = .int .i64 k ∧ v = .slice (some ⟨w.heap.size, 0, none⟩) (l.length + k) (l.length + 4) ∧ s = .int .u32 (N32 (x >>> (8 * k))) ∧
      wr.ownsRow w.heap.size 5 1 (.slice (some ⟨w.heap.size, 0, none⟩) (l.length + k) (l.length + 4)) (l.length + k) (bv (l ++ leN k x)) ∧ Below w.heap.size w wr) (fun _ _ i _ => 4 - (intOf i).toNat)
  case atStart => exact ⟨0, by omega, rfl, rfl, by simp, by simpa [leN] using hown, hb3⟩
  case round =>
    obtain ⟨k, hk, rfl, rfl, rfl, hown, hb⟩ := hrel
    by_cases h4 : k < 4
    · have hp := N32_pos (x >>> (8 * k))
      have hq := N32_le (x >>> (8 * k))
      go_wp2_with (at_builtin; ((with_reducible refine wpList_append_fits (o := ⟨some 22, _, _, _, _, _⟩) _ ?_ (.tmp 18) (.tmp 21) 24 ?_ w.heap.size 5 i0 1 Try.underlying24 hi0 hs0 w.heap.size (l.length + k) (l.length + 4) (bv (l ++ leN k x)) ?_ (hown.alloc _) ⟨wr.heap.size, 0, none⟩ 1 1 [.int .u8 (N32 (x >>> (8 * k)) % 256)] ?_ ?_ ?_ ?_ ?_ ?_); rfl; rfl; rfl; rfl; rfl; exact (cell_one_new _ _ _); exact (one_u8 _); omega; intro w4 hown4 hgr4))
      refine ⟨⟨k + 1, by omega, by go_num, rfl, int_eq (shr8 x k), ?_, hb.trans (((Below.refl _ _).alloc hb.size _).grown hgr4 (Nat.le_trans hb.size (by simp)) (fun g hg => by simp at hg; omega))⟩, by simp [intOf]; omega⟩
      rw [bv_snoc] at hown4
      exact hown4
    · go_wp2_with fail
      go_ret
      obtain rfl : k = 4 := by omega
      refine ⟨some ⟨w.heap.size, 0, none⟩, l.length + 4, rfl, ?_, hb⟩
      rw [Hx.out] at hown
      exact hown
end Go.Proofs.Ytgaadmgcjnikkaa
/- The walks of the reference's Append and Check. -/
namespace Go.Proofs.Ytgaadmgcjnikkaa
open Go.RowKit
theorem byte_at (x : BitVec 32) (i : Nat) (n : Int) (h : n = ((x.toNat / 256 ^ i % 256 : Nat) : Int)) : Value.int .u8 n = .int .u8 ((le1 i x).toNat : Int) := by
  rw [h]; simp [le1]
theorem four_bytes (x : BitVec 32) : [Value.int IntKind.u8 (N32 x % 256), Value.int IntKind.u8 (N32 x / 256 % 256), Value.int IntKind.u8 (N32 x / 65536 % 256), Value.int IntKind.u8 (N32 x / 16777216)] = bv (leN 4 x) := by
  have hx := x.isLt
  rw [byte_at x 0 (N32 x % 256) (by unfold N32; omega), byte_at x 1 (N32 x / 256 % 256) (by unfold N32; omega), byte_at x 2 (N32 x / 65536 % 256) (by unfold N32; omega), byte_at x 3 (N32 x / 16777216) (by unfold N32; omega)]
  rfl
set_option maxRecDepth 100000 in
set_option maxHeartbeats 1000000 in
theorem rapp_any (w : World) (B : Nat) (A : Option Addr) (cap : Nat) (l : List UInt8) (hR : Rd w B A (bv l)) (hB : B ≤ w.heap.size) (hl : l.length ≤ 140737488355320) :
    Calls Try.prog 70 #[.slice A l.length cap] w fun e w' => ∃ A' cap', e = .returned (.slice A' (l.length + 4) cap') ∧ w'.ownsRow w.heap.size 5 1 (.slice A' (l.length + 4) cap') (l.length + 4) (bv (withCrc l)) ∧ Below w.heap.size w w' := by
  obtain ⟨x, hx⟩ : ∃ x, x = crcU 0#32 l := ⟨_, rfl⟩
  have hsum := rsum_any w B A cap l hR (by omega)
  rw [← hx] at hsum
  have Hsum := Lib.hid hsum
  have Hx := Lib.hid hx
  clear hsum hx
  have hp := N32_pos x
  have hq := N32_le x
  go_enter Try.func70, Try.ntmps70
  go_wp2_with (first | (go_at_call 82; refine Hsum.out.mono ?_; rintro e w1 ⟨rfl, rfl⟩) | ((with_reducible refine wpList_app (o := ⟨some 8, _, _, _, _, _⟩) _ ?_ (.tmp 6) (.tmp 7) 24 ?_ w.heap.size 5 (.int .u8 0) 1 Try.underlying24 u8info ?_ (.slice (some ⟨w.heap.size, 0, none⟩) 0 0) 0 [] ?_ (own_empty (Blk.new _ _ _) (Nat.le_refl _)) B A l.length cap (bv l) ?_ (hR.alloc hB _) (bv_length l) bv_one ?_ ?_ ?_ ?_); rfl; rfl; rfl; rfl; rfl; (unfold maxLen; omega); omega; simp; intro A1 c1 w1 hown1 hg1; simp only [Nat.zero_add, List.nil_append] at hown1; have hb1 : Below w.heap.size w w1 := below_of_grown ((Below.refl _ _).alloc (Nat.le_refl _) _) (own_empty (Blk.new _ _ _) (Nat.le_refl _)) hg1 (by simp) (Nat.le_refl _)) | ((with_reducible refine wpList_app (o := ⟨some 24, _, _, _, _, _⟩) _ ?_ (.tmp 8) (.tmp 23) 24 ?_ w.heap.size 5 (.int .u8 0) 1 Try.underlying24 u8info ?_ (.slice A1 l.length c1) l.length (bv l) ?_ (hown1.alloc _) _ (some ⟨w1.heap.size, 0, none⟩) 4 4 _ ?_ (Rd.lit _ _ _) ?_ ?_ ?_ ?_ ?_ ?_); rfl; rfl; rfl; rfl; rfl; rfl; (intro u hu; simp only [List.mem_cons, List.not_mem_nil, or_false] at hu; rcases hu with rfl | rfl | rfl | rfl <;> rfl); (unfold maxLen; omega); omega; (have := hb1.size; simp; omega); intro A2 c2 w2 hown2 hg2))
  go_ret
  refine ⟨A2, c2, rfl, ?_, below_of_grown (hb1.alloc hb1.size _) (hown1.alloc _) hg2 (by have := hb1.size; simp; omega) (Nat.le_refl _)⟩
  rw [Hx.out, four_bytes, ← bv_append] at hown2
  exact hown2

theorem chk_str {P : Program} {w : World} {B : Nat} {A : Option Addr} {l : List UInt8} (hR : Rd w B A (bv l)) (src dst e : TypeId) (hs : P.underlying src = some (.slice e)) (he : P.underlying e = some (.int .u8))
    (hd : P.underlying dst = some .string) (cap : Nat) {n : Nat} (hn : l.length = n) : (convert src dst (.slice A n cap)).run P w = .ok (.string (bstr l)) w := by
  subst hn; exact run_str w hR src dst e hs he hd cap
set_option maxRecDepth 100000 in
set_option maxHeartbeats 1000000 in
theorem chk_any (w : World) (B : Nat) (A : Option Addr) (cap : Nat) (l : List UInt8) (hR : Rd w B A (bv l)) (hB : B ≤ w.heap.size) (hl : l.length ≤ 140737488355320) (hc : l.length ≤ cap) :
    Calls Try.prog 91 #[.slice A l.length cap] w fun e w' => e = .returned (.bool (checkB l)) ∧ Below w.heap.size w w' := by
  by_cases h4 : l.length < 4
  · have hb : checkB l = false := by unfold checkB; rw [decide_eq_false (by omega)]; rfl
    have Hb := Lib.hid hb
    clear hb
    go_enter Try.func91, Try.ntmps91
    go_wp2
    go_ret
    rw [Hb.out]
    exact ⟨rfl, Below.refl _ _⟩
  · obtain ⟨b, o, rfl, hbB, _⟩ := hR.byte (j := 0) (by omega)
    have hd : bv (l.take (l.length - 4)) = (bv l).take (l.length - 4) := by simp [bv]
    have hR2 : Rd w B (some ⟨b, o, none⟩) (bv (l.take (l.length - 4))) := by
      intro j u hu
      rw [hd, List.getElem?_take] at hu
      split at hu
      · exact hR j u hu
      · cases hu
    have hl2 : (l.take (l.length - 4)).length = l.length - 4 := by simp
    have h1 := run_str (P := Try.prog) w.drew hR.drew 24 9 5 Try.underlying24 Try.underlying5 Try.underlying9 cap
    have happ := app_any w.drew B (some ⟨b, o, none⟩) cap _ hR2.drew hB (by omega)
    rw [hl2, show l.length - 4 + 4 = l.length by omega] at happ
    have hwl : (withCrc (l.take (l.length - 4))).length = l.length := by rw [withCrc_length, hl2]; omega
    have Hwl := Lib.hid hwl
    clear hwl
    have hck : checkB l = decide (withCrc (l.take (l.length - 4)) = l) := by unfold checkB; rw [decide_eq_true (by omega), Bool.true_and]
    have Hck := Lib.hid hck
    clear hck
    have heq := bstr_beq (withCrc (l.take (l.length - 4))) l
    have Happ := Lib.hid happ
    have Hd := Lib.hid hd
    have Hl2 := Lib.hid hl2
    clear hd hl2 happ
    go_enter Try.func91, Try.ntmps91
    go_wp2
    go_region_with (go_at_call 73; refine Happ.out.mono ?_; rintro e w2 ⟨A', cap', rfl, hown, hb2⟩; have h2 := run_str (P := Try.prog) w2 (hR.drew.below hb2 hB) 24 9 5 Try.underlying24 Try.underlying5 Try.underlying9 cap; have h3 := chk_str (Rd.of_own hown) 24 9 5 Try.underlying24 Try.underlying5 Try.underlying9 cap' Hwl.out)
    all_goals
      go_wp2
      go_ret
      exact ⟨by rw [Hck.out]; rfl, (Below.refl _ _).drew.trans hb2⟩

end Go.Proofs.Ytgaadmgcjnikkaa
/- The walk of the reference's Check. -/
namespace Go.Proofs.Ytgaadmgcjnikkaa
open Go.RowKit
theorem i64_in (x : Int) (h0 : 0 ≤ x) (h1 : x ≤ 9223372036854775807) : IntKind.i64.wrap x = x := by rw [IntKind.wrap_i64]; omega
set_option maxRecDepth 100000 in
set_option maxHeartbeats 1000000 in
theorem rchk4 (w : World) (B b o n : Nat) (cap : Nat) (l : List UInt8) (c0 c1 c2 c3 : UInt8) (hlen : l.length = n) (hR : Rd w B (some ⟨b, o, none⟩) (bv (l ++ [c0, c1, c2, c3]))) (hl : n ≤ 140737488355320) (hc : n + 4 ≤ cap) :
    Calls Try.prog 76 #[.slice (some ⟨b, o, none⟩) (n + 4) cap] w fun e w' => e = .returned (.bool (N32 (crcU 0#32 l) == (c0.toNat : Int) + c1.toNat * 256 + c2.toNat * 65536 + c3.toNat * 16777216)) ∧ ∃ n, w' = w.drewN n := by
  have hcell : ∀ (i : Nat) (c : UInt8), (l ++ [c0, c1, c2, c3])[n + i]? = some c → w.cell? ⟨b, o + (n + i), none⟩ = some (.int .u8 (c.toNat : Int)) := by
    intro i c h
    obtain ⟨b', o', e', _, h'⟩ := hR (n + i) (.int .u8 (c.toNat : Int)) (by simp only [bv, List.getElem?_map, h]; rfl)
    cases e'
    exact h'
  have h0 := hcell 0 c0 (by subst hlen; simp)
  have h1 := hcell 1 c1 (by subst hlen; simp)
  have h2 := hcell 2 c2 (by subst hlen; simp)
  have h3 := hcell 3 c3 (by subst hlen; simp)
  clear hcell
  simp only [Nat.add_zero] at h0
  have hR2 : Rd w B (some ⟨b, o, none⟩) (bv l) := by
    intro j u hu
    refine hR j u ?_
    rw [bv_append, List.getElem?_append_left (by have := (List.getElem?_eq_some_iff.1 hu).1; exact this)]
    exact hu
  have hsum : ∀ k, Calls Try.prog 82 #[.slice (some ⟨b, o, none⟩) n cap] (w.drewN k) fun e w' => e = .returned (.int .u32 (N32 (crcU 0#32 l))) ∧ w.drewN k = w' := by
    intro k
    have := rsum_any (w.drewN k) B (some ⟨b, o, none⟩) cap l (hR2.drewN k) (by omega)
    rw [hlen] at this
    exact this
  have Hsum := Lib.hid hsum
  clear hsum hR hR2 hlen
  have hc0 := u8_lt c0
  have hc1 := u8_lt c1
  have hc2 := u8_lt c2
  have hc3 := u8_lt c3
  have p1 : (0 : Int) ≤ (n : Int) + 1 := by omega
  have p2 : (0 : Int) ≤ (n : Int) + 2 := by omega
  have p3 : (0 : Int) ≤ (n : Int) + 3 := by omega
  have q1 : ((n : Int) + 1) < (n : Int) + 4 := by omega
  have q2 : ((n : Int) + 2) < (n : Int) + 4 := by omega
  have q3 : ((n : Int) + 3) < (n : Int) + 4 := by omega
  go_enter Try.func76, Try.ntmps76
  go_wp2
  have t1 : ((n : Int) + 1).toNat = n + 1 := by omega
  have t2 : ((n : Int) + 2).toNat = n + 2 := by omega
  have t3 : ((n : Int) + 3).toNat = n + 3 := by omega
  have s1 : IntKind.i64.wrap ((n : Int) + 1) = (n : Int) + 1 := i64_in _ (by omega) (by omega)
  have s2 : IntKind.i64.wrap ((n : Int) + 2) = (n : Int) + 2 := i64_in _ (by omega) (by omega)
  have s3 : IntKind.i64.wrap ((n : Int) + 3) = (n : Int) + 3 := i64_in _ (by omega) (by omega)
  go_quiet (fail)
  go_wp2_with (go_at_call 82; refine (Hsum.out _).mono ?_; rintro e w1 ⟨rfl, rfl⟩)
  go_ret
  exact ⟨rfl, _, rfl⟩

theorem leN4 (x : BitVec 32) : leN 4 x = [le1 0 x, le1 1 x, le1 2 x, le1 3 x] := rfl
theorem u8_eq {c : UInt8} {n : Nat} (h : c.toNat = n % 256) : UInt8.ofNat n = c := by
  apply UInt8.toNat_inj.1
  rw [UInt8.toNat_ofNat', h]
theorem le4_iff (x : BitVec 32) (c0 c1 c2 c3 : UInt8) : (N32 x == (c0.toNat : Int) + c1.toNat * 256 + c2.toNat * 65536 + c3.toNat * 16777216) = decide (leN 4 x = [c0, c1, c2, c3]) := by
  have hx := x.isLt
  have h0 := u8_lt c0
  have h1 := u8_lt c1
  have h2 := u8_lt c2
  have h3 := u8_lt c3
  rw [Bool.eq_iff_iff, decide_eq_true_iff, beq_iff_eq]
  constructor
  · intro h
    unfold N32 at h
    have e : x.toNat = c0.toNat + c1.toNat * 256 + c2.toNat * 65536 + c3.toNat * 16777216 := by omega
    have a0 : le1 0 x = c0 := u8_eq (by simp only [e]; omega)
    have a1 : le1 1 x = c1 := u8_eq (by simp only [e]; omega)
    have a2 : le1 2 x = c2 := u8_eq (by simp only [e]; omega)
    have a3 : le1 3 x = c3 := u8_eq (by simp only [e]; omega)
    rw [leN4, a0, a1, a2, a3]
  · intro h
    rw [leN4] at h
    injection h with a0 h
    injection h with a1 h
    injection h with a2 h
    injection h with a3 _
    have b0 := congrArg UInt8.toNat a0
    have b1 := congrArg UInt8.toNat a1
    have b2 := congrArg UInt8.toNat a2
    have b3 := congrArg UInt8.toNat a3
    simp only [le1, UInt8.toNat_ofNat'] at b0 b1 b2 b3
    unfold N32
    omega
theorem last4 (l : List UInt8) (h : 4 ≤ l.length) : ∃ p c0 c1 c2 c3, l = p ++ [c0, c1, c2, c3] := by
  refine ⟨l.take (l.length - 4), l[l.length - 4], l[l.length - 3], l[l.length - 2], l[l.length - 1], ?_⟩
  apply List.ext_getElem?
  intro i
  by_cases hi : i < l.length - 4
  · rw [List.getElem?_append_left (by simp; omega), List.getElem?_take, if_pos hi]
  · rw [List.getElem?_append_right (by simp; omega), List.length_take, Nat.min_eq_left (by omega)]
    by_cases h1 : i < l.length
    · obtain h | h | h | h : i = l.length - 4 ∨ i = l.length - 3 ∨ i = l.length - 2 ∨ i = l.length - 1 := by omega
      · rw [show i - (l.length - 4) = 0 by omega, List.getElem?_eq_getElem h1]; simp [h]
      · rw [show i - (l.length - 4) = 1 by omega, List.getElem?_eq_getElem h1]; simp [h]
      · rw [show i - (l.length - 4) = 2 by omega, List.getElem?_eq_getElem h1]; simp [h]
      · rw [show i - (l.length - 4) = 3 by omega, List.getElem?_eq_getElem h1]; simp [h]
    · rw [List.getElem?_eq_none (by omega), List.getElem?_eq_none (by simp; omega)]
set_option maxRecDepth 100000 in
set_option maxHeartbeats 1000000 in
theorem rchk_any (w : World) (B : Nat) (A : Option Addr) (cap : Nat) (l : List UInt8) (hR : Rd w B A (bv l)) (hl : l.length ≤ 140737488355320) (hc : l.length ≤ cap) :
    Calls Try.prog 76 #[.slice A l.length cap] w fun e w' => e = .returned (.bool (checkB l)) ∧ ∃ n, w' = w.drewN n := by
  by_cases h4 : l.length < 4
  · have hb : checkB l = false := by unfold checkB; rw [decide_eq_false (by omega)]; rfl
    have Hb := Lib.hid hb
    clear hb
    go_enter Try.func76, Try.ntmps76
    go_wp2
    go_ret
    rw [Hb.out]
    exact ⟨rfl, 0, rfl⟩
  · obtain ⟨p, c0, c1, c2, c3, rfl⟩ := last4 l (by omega)
    obtain ⟨b, o, rfl, _, _⟩ := hR.byte (j := 0) (by omega)
    have hb : checkB (p ++ [c0, c1, c2, c3]) = (N32 (crcU 0#32 p) == (c0.toNat : Int) + c1.toNat * 256 + c2.toNat * 65536 + c3.toNat * 16777216) := by
      rw [le4_iff]
      unfold checkB withCrc
      rw [decide_eq_true (by simp), Bool.true_and]
      have e : (p ++ [c0, c1, c2, c3]).take ((p ++ [c0, c1, c2, c3]).length - 4) = p := by simp
      rw [e]
      simp
    have hln : (p ++ [c0, c1, c2, c3]).length = p.length + 4 := by simp
    rw [hln] at hl hc ⊢
    rw [hb]
    exact rchk4 w B b o p.length cap p c0 c1 c2 c3 rfl hR (by omega) (by omega)
end Go.Proofs.Ytgaadmgcjnikkaa
/- The walk of the reference's Flip and of the law CrcFindsBursts. -/
namespace Go.Proofs.Ytgaadmgcjnikkaa
open Go.RowKit
theorem own_whole {w : World} {base : Nat} {e : TypeId} {A : Option Addr} {n c : Nat} {xs : List Value} (h : w.ownsRow base e 1 (.slice A n c) n xs) (hn : 0 < n) :
    ∃ g cur, A = some ⟨g, 0, none⟩ ∧ base ≤ g ∧ Blk w g e cur ∧ cur.toList.take n = xs ∧ n ≤ c ∧ cur.size = c ∧ c ≤ maxLen := by
  rcases h.2 with ⟨_, h0⟩ | ⟨g, cap, cur, hv, hb, hg, hnc, hm, hcs, htk⟩
  · omega
  · injection hv with hA _ hc
    subst hc
    exact ⟨g, cur, hA, hb, hg, by simpa using htk, hnc, by omega, hm⟩
/-- Byte j of a string whose bits are inverted. -/
def flc (l : List UInt8) (X j : Nat) : Int := (((l.getD j 0 ^^^ UInt8.ofNat (byteN X j)).toNat : Nat) : Int)
theorem flc_zero (l : List UInt8) (j : Nat) (h : j < l.length) : flc l 0 j = ((l[j]).toNat : Int) := by
  have : byteN 0 j = 0 := by simp [byteN]
  unfold flc
  rw [this]
  simp [List.getD, h]
theorem flc_x2 (l : List UInt8) (X j : Nat) (h : j < l.length) : (bv (x2 l (bytesN l.length X)))[j]? = some (.int .u8 (flc l X j)) := by
  have hb := bytesN_get l.length X j h
  have hj : j < (bytesN l.length X).length := by rw [bytesN_length]; exact h
  have he : (bytesN l.length X)[j] = UInt8.ofNat (byteN X j) := by
    rw [List.getElem?_eq_getElem hj] at hb
    exact Option.some.inj hb
  simp only [bv, List.getElem?_map]
  rw [x2_get l _ j h hj, he]
  unfold flc
  simp [List.getD, h]
theorem ofNat_xor8 (a b : Nat) : UInt8.ofNat (a ^^^ b) = UInt8.ofNat a ^^^ UInt8.ofNat b := by
  apply UInt8.toNat_inj.1
  rw [UInt8.toNat_xor, UInt8.toNat_ofNat', UInt8.toNat_ofNat', UInt8.toNat_ofNat', Nat.xor_mod_two_pow]
theorem flc_same (l : List UInt8) (p f k j : Nat) (h : (f + k) / 8 ≠ j) (hb : p.testBit k = true) : flc l (Xk p f (k + 1)) j = flc l (Xk p f k) j := by
  unfold flc
  rw [Xk_yes p f k hb, byteN_xor, byteN_pow, if_neg h, Nat.xor_zero]
theorem flc_set (l : List UInt8) (p f k : Nat) (hb : p.testBit k = true) : bits .xor .u8 (flc l (Xk p f k) ((f + k) / 8)) ((2 : Int) ^ ((f + k) % 8) % (256 : Int)) = flc l (Xk p f (k + 1)) ((f + k) / 8) := by
  have hlt : 2 ^ ((f + k) % 8) < 256 := by
    have : (f + k) % 8 ≤ 7 := by omega
    have := Nat.pow_le_pow_right (n := 2) (by omega) this
    omega
  have he : (2 : Int) ^ ((f + k) % 8) % (256 : Int) = ((2 ^ ((f + k) % 8) : Nat) : Int) := by
    rw [show (2 : Int) ^ ((f + k) % 8) = ((2 ^ ((f + k) % 8) : Nat) : Int) by simp]
    generalize 2 ^ ((f + k) % 8) = m at hlt
    omega
  rw [he]
  unfold flc
  rw [Xk_yes p f k hb, byteN_xor, byteN_pow, if_pos rfl, u8_xor_nat _ _ (UInt8.toNat_lt _) hlt, ofNat_xor8, ← UInt8.xor_assoc, UInt8.toNat_xor _ (UInt8.ofNat (2 ^ ((f + k) % 8))), UInt8.toNat_ofNat']
  generalize 2 ^ ((f + k) % 8) = m at hlt
  rw [Nat.mod_eq_of_lt (b := 2 ^ 8) (by omega)]
theorem bit_of (p : BitVec 32) (k : Nat) : (N32 p / 2 ^ k).tmod 2 = if p.toNat.testBit k then 1 else 0 := by
  have e : N32 p / (2 : Int) ^ k = ((p.toNat / 2 ^ k : Nat) : Int) := by unfold N32; simp
  rw [Nat.testBit_eq_decide_div_mod_eq, e]
  generalize p.toNat / 2 ^ k = q
  rw [Int.tmod_eq_emod_of_nonneg (Int.natCast_nonneg q)]
  by_cases h : q % 2 = 1
  · rw [decide_eq_true h, if_pos rfl]; omega
  · rw [decide_eq_false h, if_neg (by simp)]; omega
set_option maxHeartbeats 2000000 in
theorem flip_any (w : World) (B : Nat) (A : Option Addr) (cap : Nat) (l : List UInt8) (from_ : Nat) (p : BitVec 32) (hR : Rd w B A (bv l)) (hB : B ≤ w.heap.size) (hl : l.length ≤ 140737488355320) (hf : from_ < 8 * l.length) :
    Calls Try.prog 48 #[.slice A l.length cap, .int .i64 (from_ : Int), .int .u32 (N32 p)] w fun e w' => ∃ A' cap', e = .returned (.slice A' l.length cap') ∧ w'.ownsRow w.heap.size 5 1 (.slice A' l.length cap') l.length (bv (x2 l (bytesN l.length (p.toNat * 2 ^ from_)))) ∧ Below w.heap.size w w' := by
  go_enter Try.func48, Try.ntmps48
  go_wp2_with ((with_reducible refine wpList_app (o := ⟨some 12, _, _, _, _, _⟩) _ ?_ (.tmp 10) (.tmp 11) 24 ?_ w.heap.size 5 (.int .u8 0) 1 Try.underlying24 u8info ?_ (.slice (some ⟨w.heap.size, 0, none⟩) 0 0) 0 [] ?_ (own_empty (Blk.new _ _ _) (Nat.le_refl _)) B A l.length cap (bv l) ?_ (hR.alloc hB _) (bv_length l) bv_one ?_ ?_ ?_ ?_); rfl; rfl; rfl; rfl; rfl; (unfold maxLen; omega); omega; simp; intro A1 c1 w1 hown1 hg1; simp only [Nat.zero_add, List.nil_append] at hown1; have hb1 : Below w.heap.size w w1 := below_of_grown ((Below.refl _ _).alloc (Nat.le_refl _) _) (own_empty (Blk.new _ _ _) (Nat.le_refl _)) hg1 (by simp) (Nat.le_refl _))
  obtain ⟨g, cs0, rfl, hg, hB0, htk, hnc, hcs, hmx⟩ := own_whole hown1 (by omega)
  have hall0 : ∀ j, j < l.length → cs0[j]? = some (.int .u8 (flc l (Xk p.toNat from_ 0) j)) := by
    intro j hj
    have := congrArg (fun ys => ys[j]?) htk
    simp only [List.getElem?_take, if_pos hj, bv_get hj] at this
    rw [Xk_zero, flc_zero l j hj]
    simpa using this
  clear hown1 hg1 htk
  go_loopw [8] (fun i wr => ∃ k : Nat, k ≤ 32 ∧ i = .int .i64 k ∧ Below w.heap.size w wr ∧ ∃ cs : Array Value, Blk wr g 5 cs ∧ cs.size = c1 ∧ ∀ j, j < l.length → cs[j]? = some (.int .u8 (flc l (Xk p.toNat from_ k) j))) (fun i _ => 32 - (intOf i).toNat)
  case atStart => exact ⟨0, by omega, rfl, hb1, cs0, hB0, hcs, hall0⟩
  case round =>
    clear hb1 hB0 hcs hall0
    obtain ⟨k, hk, rfl, hb, cs, hBc, hcs, hall⟩ := hrel
    have Hall := Lib.hid hall
    clear hall
    by_cases h32 : k < 32
    · have hbit := bit_of p k
      have hp := N32_pos p
      have hq := N32_le p
      by_cases hyes : p.toNat.testBit k = true
      · rw [if_pos hyes] at hbit
        have Hyes := Lib.hid hyes
        clear hyes
        by_cases hin : (from_ + k) / 8 < l.length
        · have hc : wr.cell? ⟨g, (from_ + k) / 8, none⟩ = some (.int .u8 (flc l (Xk p.toNat from_ k) ((from_ + k) / 8))) := by
            rw [hBc.cell, Hall.out _ hin]
          have hf := hBc.frozen ((from_ + k) / 8)
          have hi : ((from_ : Int) + k) / 8 < (l.length : Int) := by omega
          go_wp2_with fail
          refine ⟨⟨k + 1, by omega, by go_num, hb.setCell hg _, _, hBc.set_ _ _, by simpa using hcs, fun j hj => ?_⟩, by simp [intOf]; omega⟩
          rw [flc_set l _ _ k Hyes.out]
          by_cases hjk : (from_ + k) / 8 = j
          · subst hjk
            have : (from_ + k) / 8 < cs.size := by omega
            simp [this]
          · rw [Array.getElem?_setIfInBounds_ne hjk, flc_same l _ _ k j hjk Hyes.out]
            exact Hall.out j hj
        · have hi : ¬ ((from_ : Int) + k) / 8 < (l.length : Int) := by omega
          go_wp2_with fail
          refine ⟨⟨k + 1, by omega, by go_num, hb, cs, hBc, hcs, fun j hj => ?_⟩, by simp [intOf]; omega⟩
          rw [flc_same l _ _ k j (by omega) Hyes.out]
          exact Hall.out j hj
      · rw [if_neg hyes] at hbit
        have hno : p.toNat.testBit k = false := by simpa using hyes
        have Hno := Lib.hid hno
        clear hno hyes
        go_wp2_with fail
        refine ⟨⟨k + 1, by omega, by go_num, hb, cs, hBc, hcs, fun j hj => ?_⟩, by simp [intOf]; omega⟩
        rw [Xk_no _ _ k Hno.out]
        exact Hall.out j hj
    · obtain rfl : k = 32 := by omega
      go_wp2_with fail
      go_ret
      refine ⟨_, c1, rfl, ?_, hb⟩
      have hX := Hall.out
      rw [Xk_full _ _ p.isLt] at hX
      have hB2 : Blk wr g 5 cs.toList.toArray := by simpa using hBc
      refine own_of_blk hB2 hg (by simpa using hcs) hnc hmx ?_
      apply List.ext_getElem?
      intro j
      rw [List.getElem?_take]
      by_cases hj : j < l.length
      · rw [if_pos hj, flc_x2 l _ j hj]
        simpa using hX j hj
      · rw [if_neg hj, List.getElem?_eq_none]
        rw [bv_length, x2_length _ _ (by rw [bytesN_length])]
        omega
end Go.Proofs.Ytgaadmgcjnikkaa
/- package crc: the contracts in the logic's words. -/
namespace Go.Proofs.Ytgaadmgcjnikkaa
open Go.RowKit
set_option linter.unusedVariables false
set_option linter.unusedSimpArgs false
theorem cellsAll_bv {w : World} {S : Nat → Prop} (l : List UInt8) : cellsAll w S (l.map bD).flatten (bv l) := cellsAll_bytes l
/-- A function that hands back a fresh row of bytes. -/
theorem row_D {P : Program} {f : FuncId} (he : Entr P f) (l m : List UInt8) (T : TypeId) (hm : 0 < m.length)
    (h : ∀ w A c, l.length ≤ c → Rd w w.heap.size A (bv l) → Calls P f #[.slice A l.length c] w fun e w' => ∃ A' cap', e = .returned (.slice A' m.length cap') ∧ w'.ownsRow w.heap.size T 1 (.slice A' m.length cap') m.length (bv m) ∧ Below w.heap.size w w') (H : Heap) :
    Does P f [.seq 1 (l.map bD)] H fun d H' => ∃ b, H b = none ∧ d = .os b 0 1 0 m.length ∧ H' = H.upd b (.row T 0 1 (m.map bD)) :=
  And.intro he fun w vs hvs hH => by
    simp only [valsAll] at hvs
    obtain ⟨u, _, rfl, h1, rfl⟩ := hvs
    obtain ⟨A, c, rfl, hlc, hR⟩ := is_els h1
    refine (h w A c hlc hR).mono ?_
    rintro e w' ⟨A', cap', rfl, ⟨_, ho⟩, hb⟩
    rcases ho with ⟨ho, h0⟩ | ⟨g, cap, cur, ho, hg, hgc, hn, _, hsz, htk⟩
    · omega
    · injection ho with x1 x2 x3
      subst x1 x3
      have hHg : H g = none := by
        cases e : H g with
        | none => rfl
        | some x => have := hH.lt e; omega
      have hev : Ev H w (H.upd g (.row T 0 1 (m.map bD))) w' := ⟨hb.os, hb.tape, hb.output, hb.size, fun b hb1 hn1 => ⟨hb.block b hb1, by rw [Heap.upd_ne (by omega)]; exact hn1⟩, fun b cs t fr hc => ⟨cs, fr, (hb.block b (Array.getElem?_eq_some_iff.1 hc).1).trans hc, rfl⟩⟩
      refine ⟨_, _, _, rfl, ?_, ?_, hev, g, hHg, rfl, rfl⟩
      · simp only [D.is]
        exact ⟨_, _, rfl, hn, .inr ⟨by simp, cur, T, (0, 0), hgc, by omega⟩⟩
      · intro b y hy
        by_cases hbg : b = g
        · subst hbg
          rw [Heap.upd_same] at hy
          injection hy with hy
          subst hy
          refine ⟨cur, (0, 0), hgc, free0 _, by rw [List.length_map]; omega, rowsAt_block (vs := bv m) (fun e he => by obtain ⟨c, _, rfl⟩ := List.mem_map.1 he; rfl) (cellsAll_bv m) fun j v hj => ?_⟩
          rw [cell_of_row _ _ _ _ _ _ hgc, Nat.zero_add, ← htk] at *
          rw [List.getElem?_take] at hj
          split at hj
          · rw [← Array.getElem?_toList]; exact hj
          · cases hj
        · rw [Heap.upd_ne hbg] at hy
          exact hev.objAt (hb.block b (hH.lt hy)) (hH b y hy)
theorem app_N (l : List UInt8) (H : Heap) (hl : l.length ≤ 140737488355320) : Does Try.prog 73 [.seq 1 (l.map bD)] H fun d H' => ∃ b, H b = none ∧ d = .os b 0 1 0 (withCrc l).length ∧ H' = H.upd b (.row 5 0 1 ((withCrc l).map bD)) := by
  have hln := withCrc_length l
  refine row_D (ent_of Try.func73 rfl rfl) l (withCrc l) _ (by omega) (fun w A c hc hR => ?_) H
  rw [hln]
  exact app_any w w.heap.size A c l hR (Nat.le_refl _) (by omega)
theorem rapp_N (l : List UInt8) (H : Heap) (hl : l.length ≤ 140737488355320) : Does Try.prog 70 [.seq 1 (l.map bD)] H fun d H' => ∃ b, H b = none ∧ d = .os b 0 1 0 (withCrc l).length ∧ H' = H.upd b (.row 5 0 1 ((withCrc l).map bD)) := by
  have hln := withCrc_length l
  refine row_D (ent_of Try.func70 rfl rfl) l (withCrc l) _ (by omega) (fun w A c hc hR => ?_) H
  rw [hln]
  exact rapp_any w w.heap.size A c l hR (Nat.le_refl _) hl
theorem chk_N (l : List UInt8) (hl : l.length ≤ 140737488355320) : Does Try.prog 91 [.seq 1 (l.map bD)] .none fun d _ => d = .val (.bool (checkB l)) :=
  And.intro (ent_of Try.func91 rfl rfl) fun w vs hvs hH => by
    simp only [valsAll] at hvs
    obtain ⟨u, _, rfl, h1, rfl⟩ := hvs
    obtain ⟨A, c, rfl, hlc, hR⟩ := is_els h1
    refine (chk_any w w.heap.size A c l hR (Nat.le_refl _) hl hlc).mono ?_
    rintro e w' ⟨rfl, hb⟩
    exact ⟨_, _, .none, rfl, is_mk _, fun b x hb => (by cases hb), ev_below hb, rfl⟩
theorem rchk_N (l : List UInt8) (hl : l.length ≤ 140737488355320) : Does Try.prog 76 [.seq 1 (l.map bD)] .none fun d _ => d = .val (.bool (checkB l)) :=
  And.intro (ent_of Try.func76 rfl rfl) fun w vs hvs hH => by
    simp only [valsAll] at hvs
    obtain ⟨u, _, rfl, h1, rfl⟩ := hvs
    obtain ⟨A, c, rfl, hlc, hR⟩ := is_els h1
    refine (rchk_any w w.heap.size A c l hR hl hlc).mono ?_
    rintro e w' ⟨rfl, n, rfl⟩
    exact ⟨_, _, .none, rfl, is_mk _, fun b x hb => (by cases hb), ev_below (below_drewN (Below.refl _ _) n), rfl⟩
theorem chk_at (l : List UInt8) (H : Heap) (hl : l.length ≤ 140737488355320) : Does Try.prog 91 [.seq 1 (l.map bD)] H fun d H' => d = .val (.bool (checkB l)) ∧ H = H' := pure_D (chk_N l hl) rfl (vws1 (vw_refl _ _))
theorem rchk_at (l : List UInt8) (H : Heap) (hl : l.length ≤ 140737488355320) : Does Try.prog 76 [.seq 1 (l.map bD)] H fun d H' => d = .val (.bool (checkB l)) ∧ H = H' := pure_D (rchk_N l hl) rfl (vws1 (vw_refl _ _))
end Go.Proofs.Ytgaadmgcjnikkaa
