/- The walks of the laws CrcSums and CrcConcatenation. -/
import Derived.Test.YtdcnpkpibbefhaaCrcAlive
namespace Go.Proofs.Ytdcnpkpibbefhaa
open Go.RowKit
set_option maxHeartbeats 2000000 in
theorem CrcSums_walk (a0 : Option Addr) (len0 cap0 : Nat) (z0 : List Int) (w : World) (w0 : Row .u8 1 w a0 len0 cap0 z0) :
    Calls Try.prog 6 #[.slice a0 len0 cap0] w fun e w' => e = .returned (.bool true) ∧ Below w.heap.size w w' := by
  obtain ⟨l, rfl, hR, hlc, hcap⟩ := rd_of_row w0
  by_cases h : 5000 < l.length
  · go_enter Try.func6, Try.ntmps6
    go_wp2_with (go_at_call 15; refine (alive_any _).mono ?_; rintro e w1 ⟨rfl, hb1⟩)
    go_ret
    exact ⟨rfl, hb1⟩
  · have hwl : (withCrc l).length = l.length + 4 := withCrc_length l
    have Hwl := Lib.hid hwl
    clear hwl
    go_enter Try.func6, Try.ntmps6
    go_wp2_with fail
    refine (alive_any _).mono ?_
    rintro e w1 ⟨rfl, hb1⟩
    have hR1 := hR.below hb1 (Nat.le_refl _)
    go_wp2_with fail
    refine (sum_any _ w.heap.size _ _ l hR1 hb1.size (by omega)).mono ?_
    rintro e w2 ⟨rfl, hb2⟩
    have hR2 := hR1.below hb2 hb1.size
    have hb2' : Below w.heap.size w w2 := hb1.trans (hb2.mono hb1.size)
    clear hb1 hb2 hR1
    go_wp2_with fail
    refine (rsum_any _ w.heap.size _ _ l hR2 (by omega)).mono ?_
    rintro e w2' ⟨rfl, rfl⟩
    go_wp2_with fail
    refine (app_any _ w.heap.size _ _ l hR2 hb2'.size (by omega)).mono ?_
    rintro e w3 ⟨A3, c3, rfl, hown3, hb3⟩
    have hR3 := hR2.below hb3 hb2'.size
    have hb3' : Below w.heap.size w w3 := hb2'.trans (hb3.mono hb2'.size)
    go_wp2_with fail
    refine (rapp_any _ w.heap.size _ _ l hR3 hb3'.size (by omega)).mono ?_
    rintro e w4 ⟨A4, c4, rfl, hown4, hb4⟩
    have hR4 := hR3.below hb4 hb3'.size
    have hb4' : Below w.heap.size w w4 := hb3'.trans (hb4.mono hb3'.size)
    have heq := eq_any w4 w3.heap.size w4.heap.size A3 A4 c3 c4 (withCrc l) (withCrc l) ((Rd.of_own hown3).below hb4 (Nat.le_refl _)) (Rd.of_own hown4)
    rw [Hwl.out, decide_eq_true rfl] at heq
    have Heq := Lib.hid heq
    clear heq hR2 hR3 hb2' hb3' hb3 hb4 hown3 hown4
    go_wp2_with fail
    refine Heq.out.mono ?_
    rintro e w4' ⟨rfl, rfl⟩
    go_wp2_with fail
    refine (chk_any _ w.heap.size _ _ l hR4 hb4'.size (by omega) hlc).mono ?_
    rintro e w5 ⟨rfl, hb5⟩
    have hR5 := hR4.below hb5 hb4'.size
    have hb5' : Below w.heap.size w w5 := hb4'.trans (hb5.mono hb4'.size)
    clear hR4 hb4' hb5
    go_wp2_with fail
    refine (rchk_any _ w.heap.size _ _ l hR5 (by omega) hlc).mono ?_
    rintro e w6 ⟨rfl, nn, rfl⟩
    go_wp2_with fail
    go_ret
    exact ⟨by simp, below_drewN hb5' nn⟩

set_option maxHeartbeats 2000000 in
theorem CrcConcatenation_walk (a0 : Option Addr) (len0 cap0 : Nat) (z0 : List Int) (a1 : Option Addr) (len1 cap1 : Nat) (z1 : List Int) (w : World) (w0 : Row .u8 1 w a0 len0 cap0 z0) (w1 : Row .u8 1 w a1 len1 cap1 z1) :
    Calls Try.prog 4 #[.slice a0 len0 cap0, .slice a1 len1 cap1] w fun e w' => e = .returned (.bool true) ∧ Below w.heap.size w w' := by
  obtain ⟨l, rfl, hR, hlc, hcap⟩ := rd_of_row w0
  obtain ⟨m, rfl, hS, hmc, hmcap⟩ := rd_of_row w1
  by_cases h : 5000 < l.length + m.length
  · go_enter Try.func4, Try.ntmps4
    go_wp2_with (go_at_call 15; refine (alive_any _).mono ?_; rintro e w1 ⟨rfl, hb1⟩)
    go_ret
    exact ⟨rfl, hb1⟩
  · have hcat := crcU_append 0#32 l m
    have hlm : (l ++ m).length = l.length + m.length := List.length_append
    have Hcat := Lib.hid hcat
    have Hlm := Lib.hid hlm
    clear hcat hlm
    go_enter Try.func4, Try.ntmps4
    go_wp2_with fail
    refine (alive_any _).mono ?_
    rintro e w1 ⟨rfl, hb1⟩
    have hR1 := hR.below hb1 (Nat.le_refl _)
    have hS1 := hS.below hb1 (Nat.le_refl _)
    clear hR hS
    go_wp2_with (first
      | ((with_reducible refine wpList_unguard (d := some 16) ?_ ?_); rfl; (with_reducible refine wpList_app (o := ⟨some 16, _, _, _, _, _⟩) _ ?_ (.tmp 14) (.tmp 15) 23 ?_ w1.heap.size 5 (.int .u8 0) 1 Try.underlying23 u8info ?_ (.slice (some ⟨w1.heap.size, 0, none⟩) 0 0) 0 [] ?_ (own_empty (Blk.new _ _ _) (Nat.le_refl _)) w.heap.size a0 l.length cap0 (bv l) ?_ (hR1.alloc hb1.size _) (bv_length l) bv_one ?_ ?_ ?_ ?_); rfl; rfl; rfl; rfl; rfl; (unfold maxLen; omega); omega; simp; intro A2 c2 w2 hown2 hg2; simp only [Nat.zero_add, List.nil_append] at hown2; have hb2 : Below w1.heap.size w1 w2 := below_of_grown ((Below.refl _ _).alloc (Nat.le_refl _) _) (own_empty (Blk.new _ _ _) (Nat.le_refl _)) hg2 (by simp) (Nat.le_refl _))
      | ((with_reducible refine wpList_unguard (d := some 18) ?_ ?_); rfl; (with_reducible refine wpList_app (o := ⟨some 18, _, _, _, _, _⟩) _ ?_ (.tmp 16) (.tmp 17) 23 ?_ w1.heap.size 5 (.int .u8 0) 1 Try.underlying23 u8info ?_ (.slice A2 l.length c2) l.length (bv l) ?_ hown2 w.heap.size a1 m.length cap1 (bv m) ?_ (hS1.below hb2 hb1.size) (bv_length m) bv_one ?_ ?_ ?_ ?_); rfl; rfl; rfl; rfl; rfl; (unfold maxLen; omega); omega; exact hb2.size; intro A3 c3 w3 hown3 hg3; have hb3 : Below w1.heap.size w1 w3 := below_of_grown hb2 hown2 hg3 hb2.size (Nat.le_refl _)))
    rw [← bv_append] at hown3
    have hs3 := sum_any w3 w3.heap.size A3 c3 (l ++ m) (Rd.of_own hown3) (Nat.le_refl _) (by rw [Hlm.out]; omega)
    rw [Hlm.out, Hcat.out] at hs3
    refine hs3.mono ?_
    rintro e w4 ⟨rfl, hb4⟩
    have hb4' : Below w1.heap.size w1 w4 := hb3.trans (hb4.mono hb3.size)
    have hR4 := hR1.below hb4' hb1.size
    have hS4 := hS1.below hb4' hb1.size
    clear hR1 hS1 hs3 hb2 hb3 hb4 hown2 hown3 hg2 hg3
    go_wp2_with fail
    refine (sum_any _ w.heap.size _ _ l hR4 (Nat.le_trans hb1.size hb4'.size) (by omega)).mono ?_
    rintro e w5 ⟨rfl, hb5⟩
    have hb5' : Below w1.heap.size w1 w5 := hb4'.trans (hb5.mono hb4'.size)
    have hS5 := hS4.below hb5 (Nat.le_trans hb1.size hb4'.size)
    go_wp2_with fail
    refine (upd_any _ w.heap.size _ _ _ m hS5 (Nat.le_trans hb1.size hb5'.size) (by omega)).mono ?_
    rintro e w6 ⟨rfl, hb6⟩
    go_wp2_with fail
    go_ret
    exact ⟨by simp, hb1.trans ((hb5'.trans (hb6.mono hb5'.size)).mono hb1.size)⟩
end Go.Proofs.Ytdcnpkpibbefhaa
