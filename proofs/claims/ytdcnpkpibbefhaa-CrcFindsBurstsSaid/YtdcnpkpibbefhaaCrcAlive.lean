/- The walk of the laws' own look at the examples of the chapter, and the laws that need no more than the contracts. -/
import Derived.Test.YtdcnpkpibbefhaaCrcRef2
namespace Go.Proofs.Ytdcnpkpibbefhaa
open Go.RowKit
def ex9 : List UInt8 := [49, 50, 51, 52, 53, 54, 55, 56, 57]
def ex9v : List Value := [.int .u8 49, .int .u8 50, .int .u8 51, .int .u8 52, .int .u8 53, .int .u8 54, .int .u8 55, .int .u8 56, .int .u8 57]
theorem ex9_v : ex9v = bv ex9 := by rfl
theorem exa_v : [Value.int .u8 97] = bv [97] := by rfl
theorem ex9_crc : N32 (crcU 0#32 ex9) = 3421780262 := by decide +kernel
theorem ex0_crc : N32 (crcU 0#32 []) = 0 := by decide +kernel
theorem exa_chk : checkB (withCrc [97]) = true := by decide +kernel
set_option maxHeartbeats 1000000 in
theorem alive_any (w : World) : Calls Try.prog 15 #[] w fun e w' => e = .returned (.bool true) ∧ Below w.heap.size w w' := by
  have kc := fun (w : World) (C : Array Value) (n c : Nat) => Lib.run_convert_bytes_const (P := Try.prog) w 23 5 C n c Try.underlying23 Try.underlying5
  have c1 : ∀ w : World, Calls Try.prog 18 #[.slice (some ⟨w.heap.size, 0, none⟩) 9 9] (w.alloc (.cells ex9v.toArray 5 (9, 10))) fun e w' => e = .returned (.int .u32 3421780262) ∧ Below (w.heap.size + 1) (w.alloc (.cells ex9v.toArray 5 (9, 10))) w' := by
    intro w
    have h := sum_any (w.alloc (.cells ex9v.toArray 5 (9, 10))) (w.heap.size + 1) (some ⟨w.heap.size, 0, none⟩) 9 ex9 (by rw [← ex9_v]; exact Rd.litf w _ ex9v (9, 10)) (by simp) (by decide)
    rw [ex9_crc] at h
    exact h.mono fun e w' ⟨he, hb⟩ => ⟨he, hb.mono (by simp)⟩
  have c2 : ∀ w : World, Calls Try.prog 18 #[.slice none 0 0] w fun e w' => e = .returned (.int .u32 0) ∧ Below w.heap.size w w' := by
    intro w
    have h := sum_any w 0 none 0 [] (Rd.nil _ _ _) (by omega) (by decide)
    rw [ex0_crc] at h
    exact h
  have c3 : ∀ w : World, Calls Try.prog 21 #[.slice (some ⟨w.heap.size, 0, none⟩) 1 1] (w.alloc (.cells #[.int .u8 97] 5 (1, 2))) fun e w' => ∃ A' cap', e = .returned (.slice A' 5 cap') ∧ w'.ownsRow (w.heap.size + 1) 5 1 (.slice A' 5 cap') 5 (bv (withCrc [97])) ∧ Below (w.heap.size + 1) (w.alloc (.cells #[.int .u8 97] 5 (1, 2))) w' := by
    intro w
    have h := app_any (w.alloc (.cells #[.int .u8 97] 5 (1, 2))) (w.heap.size + 1) (some ⟨w.heap.size, 0, none⟩) 1 [97] (Rd.litf w _ [.int .u8 97] (1, 2)) (by simp) (by decide)
    simp only [World.size_alloc] at h
    exact h
  have C1 := Lib.hid c1
  have C2 := Lib.hid c2
  have C3 := Lib.hid c3
  clear c1 c2 c3
  go_enter Try.func15, Try.ntmps15
  go_wp2_with fail
  refine (C1.out w).mono ?_
  rintro e w1 ⟨rfl, hb1⟩
  go_wp2_with fail
  refine (C2.out w1).mono ?_
  rintro e w2 ⟨rfl, hb2⟩
  go_wp2_with fail
  refine (C3.out w2).mono ?_
  rintro e w3 ⟨A', cap', rfl, hown, hb3⟩
  go_wp2_with fail
  have h5 := own_cap hown
  refine (chk_any w3 w3.heap.size A' cap' (withCrc [97]) (Rd.of_own hown) (Nat.le_refl _) (by decide) h5).mono ?_
  rintro e w4 ⟨rfl, hb4⟩
  have hx := Lib.hid exa_chk
  go_wp2_with fail
  go_ret
  have s1 : w.heap.size + 1 ≤ w1.heap.size := by have := hb1.size; simpa using this
  have s2 := hb2.size
  have s3 : w2.heap.size + 1 ≤ w3.heap.size := by have := hb3.size; simpa using this
  refine ⟨by rw [hx.out]; rfl, ?_⟩
  exact (((((Below.refl _ w).alloc (Nat.le_refl _) _).trans (hb1.mono (by omega))).trans (hb2.mono (by omega))).alloc (by omega) _).trans ((hb3.mono (by omega)).trans (hb4.mono (by omega)))

set_option maxHeartbeats 1000000 in
theorem CrcUpdates_walk (a0 : Int) (a1 : Option Addr) (len1 cap1 : Nat) (z1 : List Int) (w : World) (w0 : (Lit.int .u32 a0).wf = true) (w1 : Row .u8 1 w a1 len1 cap1 z1) :
    Calls Try.prog 3 #[.int .u32 a0, .slice a1 len1 cap1] w fun e w' => e = .returned (.bool true) ∧ Below w.heap.size w w' := by
  obtain ⟨l, rfl, hR, hlc, hcap⟩ := rd_of_row w1
  have hl : l.length ≤ 9223372036854775807 := by omega
  obtain ⟨x, rfl⟩ := N32_of (wf_u32_bd w0).1 (wf_u32_bd w0).2
  by_cases h : 5000 < l.length
  · go_enter Try.func3, Try.ntmps3
    go_wp2_with (go_at_call 15; refine (alive_any _).mono ?_; rintro e w1 ⟨rfl, hb1⟩)
    go_ret
    exact ⟨rfl, hb1⟩
  · go_enter Try.func3, Try.ntmps3
    go_wp2_with (first | (go_at_call 15; refine (alive_any _).mono ?_; rintro e w1 ⟨rfl, hb1⟩) | (go_at_call 16; refine (upd_any _ w.heap.size _ _ x l (hR.below hb1 (Nat.le_refl _)) hb1.size hl).mono ?_; rintro e w2 ⟨rfl, hb2⟩) | (go_at_call 17; refine (rupd_any _ w.heap.size _ _ x l ((hR.below hb1 (Nat.le_refl _)).below hb2 hb1.size) hl).mono ?_; rintro e w3 ⟨rfl, rfl⟩))
    go_ret
    exact ⟨by simp, hb1.trans (hb2.mono hb1.size)⟩
end Go.Proofs.Ytdcnpkpibbefhaa
