/- The walks of crc.Append, crc.Check and of the reference's. -/
import Derived.Test.YtdcnpkpibbefhaaCrc
import Derived.Laws.CopyOwn
import Derived.Maps.AppendAt
namespace Go.Proofs.Ytdcnpkpibbefhaa
open Go.RowKit
set_option maxHeartbeats 1000000 in
theorem eq_any (w : World) (B B' : Nat) (A A' : Option Addr) (cap cap' : Nat) (l l' : List UInt8) (hR : Rd w B A (bv l)) (hR' : Rd w B' A' (bv l')) :
    Calls Try.prog 20 #[.slice A l.length cap, .slice A' l'.length cap'] w fun e w' => e = .returned (.bool (decide (l = l'))) ∧ w = w' := by
  have h1 := run_str (P := Try.prog) w hR 23 9 5 Try.underlying23 Try.underlying5 Try.underlying9 cap
  have h2 := run_str (P := Try.prog) w hR' 23 9 5 Try.underlying23 Try.underlying5 Try.underlying9 cap'
  have h3 := bstr_beq l l'
  go_enter Try.func20, Try.ntmps20
  go_wp2
  go_ret
  exact ⟨rfl, rfl⟩

theorem u8info : (Try.prog.info? 5).map (fun i => (i.zero, i.size, i.bytes)) = some (some (.int .u8 0), 1, 1) := by kernel_rfl
theorem u8one : (Try.prog.info? 5).map (·.size) = some 1 := by kernel_rfl
theorem mk_bytes (n c : Nat) (hnc : n ≤ c) (h : c ≤ 281474976710656) (w : World) :
    (Instr.makeSlice 23 (.int .i64 (n : Int)) (.int .i64 (c : Int))).run Try.prog w = .ok (.slice (some ⟨w.heap.size, 0, none⟩) n c) (w.alloc (.cells (zeros c).toArray 5)) := by
  obtain ⟨i, hi, hz, hs, hb⟩ := info_parts u8info
  exact run_mk 23 5 i Try.underlying23 hi hz hs hb n c hnc h w

theorem copy_src {w : World} {B : Nat} {A : Option Addr} {l : List UInt8} (hR : Rd w B A (bv l)) (hB : B ≤ w.heap.size) (o : Obj) (h : 0 < (bv l).length) :
    some (⟨w.heap.size, 0, none⟩ : Addr) = some ⟨w.heap.size, 0, none⟩ ∧ ∃ ad, A = some ad ∧ ∀ (j : Nat) (v : Value), (bv l)[j]? = some v → (w.alloc o).cell? (ad.add j) = some v := by
  rw [bv_length] at h
  obtain ⟨b, o', rfl, _, _⟩ := hR.byte h
  refine ⟨rfl, _, rfl, fun j v hv => ?_⟩
  obtain ⟨b2, o2, e, _, hc⟩ := (hR.alloc hB o) j v hv
  cases e
  rw [Addr.add_lit]
  exact hc
theorem one_u8 (n : Int) : ∀ u ∈ [Value.int .u8 n], u.oneCell' = true := by
  intro u hu
  obtain rfl : u = .int .u8 n := by simpa using hu
  rfl
theorem shr8 (x : BitVec 32) (k : Nat) : N32 (x >>> (8 * k)) / (256 : Int) = N32 (x >>> (8 * (k + 1))) := by
  unfold N32
  rw [BitVec.toNat_ushiftRight, BitVec.toNat_ushiftRight, Nat.shiftRight_eq_div_pow, Nat.shiftRight_eq_div_pow, show 8 * (k + 1) = 8 * k + 8 by omega, Nat.pow_add, ← Nat.div_div_eq_div_mul]
  omega
theorem bv_snoc (l : List UInt8) (k : Nat) (x : BitVec 32) : bv (l ++ leN k x) ++ [Value.int .u8 (N32 (x >>> (8 * k)) % (256 : Int))] = bv (l ++ leN (k + 1) x) := by
  rw [leN, ← List.append_assoc, bv_append _ [le1 k x]]
  congr 2
  unfold N32 le1
  rw [BitVec.toNat_ushiftRight, Nat.shiftRight_eq_div_pow, Nat.pow_mul]
  simp
set_option maxHeartbeats 1000000 in
theorem app_any (w : World) (B : Nat) (A : Option Addr) (cap : Nat) (l : List UInt8) (hR : Rd w B A (bv l)) (hB : B ≤ w.heap.size) (hl : l.length ≤ 140737488355328) :
    Calls Try.prog 21 #[.slice A l.length cap] w fun e w' => ∃ A' cap', e = .returned (.slice A' (l.length + 4) cap') ∧ w'.ownsRow w.heap.size 5 1 (.slice A' (l.length + 4) cap') (l.length + 4) (bv (withCrc l)) ∧ Below w.heap.size w w' := by
  have hmk := mk_bytes l.length (l.length + 4) (by omega) (by omega)
  have ec : ((l.length + 4 : Nat) : Int) = (l.length : Int) + 4 := by omega
  rw [ec] at hmk
  clear ec
  have hcs : (bv l).length = Nat.min l.length l.length := by rw [bv_length]; exact (Nat.min_self _).symm
  have hfit : 0 + (bv l).length ≤ (zeros (l.length + 4)).length := by rw [bv_length, zeros_length]; omega
  have Hcs := Lib.hid hcs
  clear hcs
  go_enter Try.func21, Try.ntmps21
  go_wp2_with (first | ((with_reducible refine wpList_copy_splice (o := ⟨some 13, _, _, _, _, _⟩) ?_ (.tmp 11) (.tmp 12) 23 23 ?_ 5 Try.underlying23 u8one (some ⟨w.heap.size, 0, none⟩) A l.length (l.length + 4) l.length cap ?_ ?_ w.heap.size 0 (zeros (l.length + 4)) 5 (Blk.new _ _ _).out (bv l) Hcs.out ?_ hfit bv_one w.heap.size w ((Below.refl _ _).alloc (Nat.le_refl _) _) (Nat.le_refl _) ?_); rfl; rfl; rfl; rfl; exact (copy_src hR hB _); intro w1 hg1 hb1) | (go_at_call 18; refine (sum_any _ B _ _ l (hR.below hb1 hB) (Nat.le_trans hB hb1.size) (by omega)).mono ?_; rintro e w2 ⟨rfl, hb2⟩))
  have hg2 : Blk w1 w.heap.size 5 (splice (zeros (l.length + 4)) 0 (bv l)).toArray := hg1.out
  have hb3 : Below w.heap.size w w2 := hb1.trans (hb2.mono hb1.size)
  have hg3 := hg2.below hb2 hg2.lt
  have hlen : (splice (zeros (l.length + 4)) 0 (bv l)).length = l.length + 4 := by rw [length_splice _ _ _ hfit, zeros_length]
  have htk : (splice (zeros (l.length + 4)) 0 (bv l)).take l.length = bv l := by simp [splice, bv_length]
  have hown : w2.ownsRow w.heap.size 5 1 (.slice (some ⟨w.heap.size, 0, none⟩) l.length (l.length + 4)) l.length (bv l) :=
    own_of_blk hg3 (Nat.le_refl _) hlen (by omega) (by unfold maxLen; omega) htk
  clear hmk hg1 hg2 hg3 hb1 hb2 hlen htk hfit Hcs hR
  obtain ⟨x, hx⟩ : ∃ x, x = crcU 0#32 l := ⟨_, rfl⟩
  rw [← hx]
  have Hx := Lib.hid hx
  clear hx
  obtain ⟨i0, hi0, hz0, hs0, hby0⟩ := info_parts u8info
  go_loopw [3, 4, 16] (fun v s i wr => ∃ k : Nat, k ≤ 4 ∧ i = .int .i64 k ∧ v = .slice (some ⟨w.heap.size, 0, none⟩) (l.length + k) (l.length + 4) ∧ s = .int .u32 (N32 (x >>> (8 * k))) ∧
      wr.ownsRow w.heap.size 5 1 (.slice (some ⟨w.heap.size, 0, none⟩) (l.length + k) (l.length + 4)) (l.length + k) (bv (l ++ leN k x)) ∧ Below w.heap.size w wr) (fun _ _ i _ => 4 - (intOf i).toNat)
  case atStart => exact ⟨0, by omega, rfl, rfl, by simp, by simpa [leN] using hown, hb3⟩
  case round =>
    obtain ⟨k, hk, rfl, rfl, rfl, hown, hb⟩ := hrel
    by_cases h4 : k < 4
    · have hp := N32_pos (x >>> (8 * k))
      have hq := N32_le (x >>> (8 * k))
      go_wp2_with (at_builtin; ((with_reducible refine wpList_append_fits (o := ⟨some 22, _, _, _, _, _⟩) _ ?_ (.tmp 18) (.tmp 21) 23 ?_ w.heap.size 5 i0 1 Try.underlying23 hi0 hs0 w.heap.size (l.length + k) (l.length + 4) (bv (l ++ leN k x)) ?_ (hown.alloc _) ⟨wr.heap.size, 0, none⟩ 1 1 [.int .u8 (N32 (x >>> (8 * k)) % 256)] ?_ ?_ ?_ ?_ ?_ ?_); rfl; rfl; rfl; rfl; rfl; exact (cell_one_new _ _ _); exact (one_u8 _); omega; intro w4 hown4 hgr4))
      refine ⟨⟨k + 1, by omega, by go_num, rfl, int_eq (shr8 x k), ?_, hb.trans (((Below.refl _ _).alloc hb.size _).grown hgr4 (Nat.le_trans hb.size (by simp)) (fun g hg => by simp at hg; omega))⟩, by simp [intOf]; omega⟩
      rw [bv_snoc] at hown4
      exact hown4
    · go_wp2_with fail
      go_ret
      obtain rfl : k = 4 := by omega
      refine ⟨some ⟨w.heap.size, 0, none⟩, l.length + 4, rfl, ?_, hb⟩
      rw [Hx.out] at hown
      exact hown
end Go.Proofs.Ytdcnpkpibbefhaa
