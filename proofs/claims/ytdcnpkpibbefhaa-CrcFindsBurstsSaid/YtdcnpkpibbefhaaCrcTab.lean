/- The walks of crc.table and of the reference's step. -/
import Derived.Test.YtdcnpkpibbefhaaProg
import Derived.Test.YtdcnpkpibbefhaaKit
import Derived.Test.YtdcnpkpibbefhaaCrcMath
namespace Go.Proofs.Ytdcnpkpibbefhaa
open Go.RowKit

def Z256 : Array Value := Array.replicate 256 (.int .u32 0)
def tabV (i : Nat) : Value := .int .u32 (N32 (Zn 8 (BitVec.ofNat 32 i)))
def tabA (k : Nat) : Array Value := Array.ofFn (n := 256) fun i => if i.val < k then tabV i.val else .int .u32 0
theorem tabA_zero : Z256 = tabA 0 := by
  unfold Z256 tabA
  apply Array.ext
  · simp
  · intro i h1 h2; simp
theorem tabA_set (k : Nat) (_hk : k < 256) : (tabA k).setIfInBounds k (tabV k) = tabA (k + 1) := by
  apply Array.ext
  · simp [tabA]
  · intro i h1 h2
    have hi : i < (tabA k).size := by simpa using h1
    rw [Array.getElem_setIfInBounds hi]
    simp only [tabA, Array.getElem_ofFn]
    by_cases h : k = i
    · subst h; simp
    · have : i < k + 1 ↔ i < k := by omega
      rw [if_neg h]; simp only [this]
theorem tabA_get (k : Nat) (hk : k < 256) : (tabA k)[k]? = some (.int .u32 0) := by
  unfold tabA; simp [hk]
theorem tabA_full (k i : Nat) (hk : k = 256) (hi : i < 256) : (tabA k)[i]? = some (tabV i) := by
  subst hk; unfold tabA; simp [hi]
theorem size_tabA (k : Nat) : (tabA k).size = 256 := by simp [tabA]
theorem tabA_one (k : Nat) : (tabA k).all (·.oneCell') = true := by
  rw [Array.all_eq_true_iff_forall_mem]; intro x hx; simp [tabA] at hx; obtain ⟨i, rfl⟩ := hx; split <;> rfl
theorem zero51 (w : World) : (zeroValue 51).run Try.prog w = .ok (.agg Z256) w := by kernel_rfl
theorem size51 : (Try.prog.info? 51).map (·.size) = some 256 := by kernel_rfl
theorem tab_i (k : Nat) : Option.map (fun x => x.size) (Try.prog.info? 51) = some (tabA k).size := by rw [size51, size_tabA]
theorem tab_z (k : Nat) : Z256.size = (tabA k).size := by rw [size_tabA]; simp [Z256]

theorem neg_bit (x : BitVec 32) : (bits .and .u32 3988292384 ((- (bits .and .u32 (N32 x) 1)) % 4294967296)) = N32 (if x.getLsbD 0 then 0xedb88320#32 else 0#32) := by
  have e3 : N32 (x &&& 1#32) = ((x.toNat % 2 : Nat) : Int) := by
    unfold N32
    rw [BitVec.toNat_and]
    exact congrArg _ (Nat.and_one_is_mod _)
  rw [show (1 : Int) = N32 (1#32) by rfl, bits_and32, e3, lsb0, show (3988292384 : Int) = N32 (0xedb88320#32) by rfl]
  by_cases h : x.toNat % 2 = 1
  · rw [h, decide_eq_true rfl]
    rw [show (-((1 : Nat) : Int)) % 4294967296 = N32 (4294967295#32) by decide, bits_and32]
    rfl
  · rw [show x.toNat % 2 = 0 by omega, decide_eq_false (by omega)]
    rw [show (-((0 : Nat) : Int)) % 4294967296 = N32 (0#32) by decide, bits_and32]
    rfl
theorem half32 (x : BitVec 32) : N32 x / (2 : Int) = N32 (x >>> 1) := by unfold N32; rw [shr1]; omega
theorem Z_eq (x : BitVec 32) : bits .xor .u32 (N32 x / 2) (bits .and .u32 3988292384 ((- (bits .and .u32 (N32 x) 1)) % 4294967296)) = N32 (Z x) := by
  rw [neg_bit, half32, bits_xor32]
  rfl
theorem Z_one (x : BitVec 32) (h : (N32 x % 2 == 1) = true) : bits .xor .u32 (N32 x / 2) 3988292384 = N32 (Z x) := by
  have h' : x.toNat % 2 = 1 := by simp [N32] at h; omega
  rw [half32, show (3988292384 : Int) = N32 (0xedb88320#32) by rfl, bits_xor32, ← Z_odd _ h']
theorem Z_nil (x : BitVec 32) (h : (N32 x % 2 == 1) = false) : N32 x / 2 = N32 (Z x) := by
  have h' : ¬ x.toNat % 2 = 1 := by simp [N32] at h; omega
  unfold N32
  rw [Z_even _ h']; omega
set_option maxHeartbeats 1000000
set_option maxRecDepth 20000 in
theorem table (w : World) : Calls Try.prog 38 #[] w fun e w' => e = .returned (.agg (tabA 256)) ∧ Below w.heap.size w w' := by
  have hz := zero51
  go_enter Try.func38, Try.ntmps38
  go_wp2
  go_loopw [4] (fun i wr => ∃ k : Nat, k ≤ 256 ∧ i = .int .i64 k ∧ Below w.heap.size w wr ∧ Blk wr (w.heap.size + 1) 51 (tabA k) ∧ Blk wr (w.heap.size) 51 (Z256)) (fun i _ => 256 - (intOf i).toNat)
  case atStart =>
    refine ⟨0, by omega, rfl, ((Below.refl _ _).alloc (Nat.le_refl _) _).alloc (by simp) _, ?_, (Blk.new w _ _).alloc _⟩
    rw [← tabA_zero]
    exact Blk.new_ _ _ _ (by simp)
  case round =>
    clear hz
    obtain ⟨k, hk, rfl, hb, h1, h0⟩ := hrel
    by_cases h8 : k < 256
    · have hc : wr.cell? ⟨w.heap.size + 1, k, none⟩ = some (.int .u32 0) := by rw [h1.cell, tabA_get k h8]
      have hf : wr.frozen? ⟨w.heap.size + 1, k, none⟩ = false := h1.frozen k
      go_wp2
      go_loop [3, 9] (fun s i => ∃ j : Nat, j ≤ 8 ∧ i = .int .i64 j ∧ s = .int .u32 (N32 (Zn j (BitVec.ofNat 32 k)))) (fun _ i => 8 - (intOf i).toNat)
      case atStart => exact ⟨0, by omega, rfl, int_eq (by simp [Zn, N32]; omega)⟩
      case round =>
        obtain ⟨j, hj, rfl, rfl, rfl⟩ := hrel
        by_cases hj8 : j < 8
        · have hp := N32_pos (Zn j (BitVec.ofNat 32 k))
          go_wp2
          exact ⟨⟨j + 1, by omega, by go_num, int_eq (Z_eq (Zn j (BitVec.ofNat 32 k)))⟩, by simp [intOf]; omega⟩
        · go_wp2
          obtain rfl : j = 8 := by omega
          go_roundw
          case rel => exact ⟨k + 1, by omega, by go_num, hb.setCell (by simp) _, by rw [← tabA_set k h8]; exact h1.set_ k _, h0.far (by simp) _⟩
          case measure => simp [intOf]; omega
    · go_wp2_with (first | ((with_reducible refine wpList_load_row (o := ⟨some 23, .load 51 (.tmp 1), _, _, _, _⟩) ?_ 51 (.tmp 1) ?_ (w.heap.size + 1) ?_ 51 (tabA k) (0, 0) _ h1.out Try.underlying51 ?_ (tab_i k) ?_); rfl; rfl; rfl; rfl) | ((with_reducible refine wpList_store_row (o := ⟨none, .store 51 (.tmp 0) (.tmp 23), _, _, _, _⟩) ?_ 51 (.tmp 0) (.tmp 23) ?_ w.heap.size (tabA k) ?_ ?_ 51 Z256 h0.out (tab_i k) (tab_z k) (tabA_one k) ?_); rfl; rfl; rfl; rfl))
      have hk : k = 256 := by omega
      refine bodyPost_ret (results_cell_row (P := Try.prog) rfl _ _ w.heap.size 51 (tabA k) (0, 0) _ rfl (h0.setRow_ (tabA k)) Try.underlying51 rfl (tab_i k)) rfl ⟨by rw [hk], below_setRow hb (Nat.le_refl _) _⟩

set_option maxHeartbeats 1000000 in
theorem step_any (w : World) (x y : BitVec 32) (c : Int) (_hc : 0 ≤ c ∧ c < 256) (hy : bits .xor .u32 (N32 x) c = N32 y) :
    Calls Try.prog 39 #[.int .u32 (N32 x), .int .u8 c] w fun e w' => e = .returned (.int .u32 (N32 (Zn 8 y))) ∧ w = w' := by
  go_enter Try.func39, Try.ntmps39
  go_wp2
  clear hy
  go_loop [0, 5] (fun s i => ∃ k : Nat, k ≤ 8 ∧ i = .int .i64 k ∧ s = .int .u32 (N32 (Zn k y))) (fun _ i => 8 - (intOf i).toNat)
  case atStart => exact ⟨0, by omega, rfl, rfl⟩
  case round =>
    obtain ⟨k, hk, rfl, rfl⟩ := hrel
    by_cases h8 : k < 8
    · have hp := N32_pos (Zn k y)
      have hq := N32_le (Zn k y)
      go_wp2
      · exact ⟨⟨k + 1, by omega, by go_num, int_eq (Z_one (Zn k y) (by assumption))⟩, by simp [intOf]; omega⟩
      · exact ⟨⟨k + 1, by omega, by go_num, int_eq (Z_nil (Zn k y) (by assumption))⟩, by simp [intOf]; omega⟩
    · go_wp2
      go_ret
      obtain rfl : k = 8 := by omega
      exact ⟨rfl, rfl⟩
end Go.Proofs.Ytdcnpkpibbefhaa
