/- The walk of the law CrcFindsBursts. -/
import Derived.Test.YtdcnpkpibbefhaaCrcFlip
namespace Go.Proofs.Ytdcnpkpibbefhaa
open Go.RowKit
set_option maxHeartbeats 2000000 in
theorem CrcFindsBursts_walk (a0 : Option Addr) (len0 cap0 : Nat) (z0 : List Int) (a1 : Int) (a2 : Int) (w : World) (w0 : Row .u8 1 w a0 len0 cap0 z0) (w1 : (Lit.int .u16 a1).wf = true) (w2 : (Lit.int .u32 a2).wf = true) :
    Calls Try.prog 7 #[.slice a0 len0 cap0, .int .u16 a1, .int .u32 a2] w fun e w' => e = .returned (.bool true) ∧ Below w.heap.size w w' := by
  obtain ⟨l, rfl, hR, hlc, hcap⟩ := rd_of_row w0
  obtain ⟨p, rfl⟩ := N32_of (wf_u32_bd w2).1 (wf_u32_bd w2).2
  obtain ⟨a1l, a1h⟩ := wf_u16_bd w1
  clear w0 w1 w2
  by_cases h : 5000 < l.length
  · go_enter Try.func7, Try.ntmps7
    go_wp2_with (go_at_call 15; refine (alive_any _).mono ?_; rintro e w1 ⟨rfl, hb1⟩)
    go_ret
    exact ⟨rfl, hb1⟩
  · obtain ⟨fr, hfr⟩ : ∃ fr : Nat, a1 % (8 * ((l.length : Int) + 4)) = (fr : Int) := Int.eq_ofNat_of_zero_le (Int.emod_nonneg _ (by omega))
    have hfl : (fr : Int) < 8 * ((l.length : Int) + 4) := by rw [← hfr]; exact Int.emod_lt_of_pos _ (by omega)
    have hfl' : fr < 8 * (l.length + 4) := by omega
    have hne : ((l.length : Int) + 4 != (l.length : Int) + 4) = false := by simp
    clear hfl
    go_enter Try.func7, Try.ntmps7
    go_wp2_with fail
    refine (app_any _ w.heap.size _ _ l hR (Nat.le_refl _) (by omega)).mono ?_
    rintro e w1 ⟨A1, c1, rfl, hown1, hb1⟩
    have hR1 := Rd.of_own hown1
    have hc1 := own_cap hown1
    obtain ⟨c, hc⟩ : ∃ c, c = withCrc l := ⟨_, rfl⟩
    have hcl : c.length = l.length + 4 := by rw [hc, withCrc_length]
    have hck : checkB c = true := by rw [hc]; exact checkB_withCrc l
    rw [← hc] at hR1
    clear hown1 hc hR
    have hflip := flip_any w1 w1.heap.size A1 c1 c fr p hR1 (Nat.le_refl _) (by omega) (by omega)
    rw [hcl] at hflip
    have Hflip := Lib.hid hflip
    have Hcl := Lib.hid hcl
    have Hck := Lib.hid hck
    clear hflip hcl hck
    go_wp2_with fail
    refine Hflip.out.mono ?_
    rintro e w2 ⟨A2, c2, rfl, hown2, hb2⟩
    have hR2 := Rd.of_own hown2
    have hc2 := own_cap hown2
    obtain ⟨d, hd⟩ : ∃ d, d = x2 c (bytesN (l.length + 4) (p.toNat * 2 ^ fr)) := ⟨_, rfl⟩
    have hdl : d.length = l.length + 4 := by rw [hd, x2_length _ _ (by rw [bytesN_length, Hcl.out]), Hcl.out]
    have hfind : checkB d = decide (c = d) := by
      have := finds c p.toNat fr (by rw [Hcl.out]; omega) Hck.out p.isLt (by rw [Hcl.out]; omega)
      rw [Hcl.out] at this
      rw [hd]; exact this
    rw [← hd] at hR2
    have hR1b := hR1.below hb2 (Nat.le_refl _)
    have hbw2 : Below w.heap.size w w2 := hb1.trans (hb2.mono hb1.size)
    clear hown2 hd hR1 Hflip
    go_wp2_with fail
    refine (alive_any w2).mono ?_
    rintro e w3 ⟨rfl, hb3⟩
    have hR1c := hR1b.below hb3 hb2.size
    have hR2c := hR2.below hb3 (Nat.le_refl _)
    have k1 := chk_any w3 w1.heap.size A1 c1 c hR1c (Nat.le_trans hb2.size hb3.size) (by rw [Hcl.out]; omega) (by rw [Hcl.out]; omega)
    rw [Hcl.out, Hck.out] at k1
    have K1 := Lib.hid k1
    clear k1 hR1b hR2
    have Hdl := Lib.hid hdl
    have Hfind := Lib.hid hfind
    clear hdl hfind
    go_wp2_with fail
    refine K1.out.mono ?_
    rintro e w4 ⟨rfl, hb4⟩
    have hR1d := hR1c.below hb4 (Nat.le_trans hb2.size hb3.size)
    have hR2d := hR2c.below hb4 hb3.size
    have k2 := chk_any w4 w2.heap.size A2 c2 d hR2d (Nat.le_trans hb3.size hb4.size) (by rw [Hdl.out]; omega) (by rw [Hdl.out]; omega)
    rw [Hdl.out, Hfind.out] at k2
    have K2 := Lib.hid k2
    clear k2 K1
    go_wp2_with fail
    refine K2.out.mono ?_
    rintro e w5 ⟨rfl, hb5⟩
    have k3 := eq_any w5 w1.heap.size w2.heap.size A1 A2 c1 c2 c d (hR1d.below hb5 (by have := hb2.size; have := hb3.size; have := hb4.size; omega)) (hR2d.below hb5 (by have := hb3.size; have := hb4.size; omega))
    rw [Hcl.out, Hdl.out] at k3
    have K3 := Lib.hid k3
    clear k3 K2
    go_wp2_with fail
    refine K3.out.mono ?_
    rintro e w6 ⟨rfl, rfl⟩
    go_wp2_with fail
    go_ret
    have s2 := hbw2.size
    have s3 := hb3.size
    have s4 := hb4.size
    exact ⟨by simp, ((hbw2.trans (hb3.mono s2)).trans (hb4.mono (by omega))).trans (hb5.mono (by omega))⟩
end Go.Proofs.Ytdcnpkpibbefhaa
