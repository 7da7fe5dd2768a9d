/- The walks of the reference's Append and Check. -/
import Derived.Test.YtdcnpkpibbefhaaCrcApp
import Derived.Test.YtdcnpkpibbefhaaKit2
import Derived.Deep.QuietTactic
import Derived.BigQuiet
namespace Go.Proofs.Ytdcnpkpibbefhaa
open Go.RowKit
theorem byte_at (x : BitVec 32) (i : Nat) (n : Int) (h : n = ((x.toNat / 256 ^ i % 256 : Nat) : Int)) : Value.int .u8 n = .int .u8 ((le1 i x).toNat : Int) := by
  rw [h]; simp [le1]
theorem four_bytes (x : BitVec 32) : [Value.int IntKind.u8 (N32 x % 256), Value.int IntKind.u8 (N32 x / 256 % 256), Value.int IntKind.u8 (N32 x / 65536 % 256), Value.int IntKind.u8 (N32 x / 16777216)] = bv (leN 4 x) := by
  have hx := x.isLt
  rw [byte_at x 0 (N32 x % 256) (by unfold N32; omega), byte_at x 1 (N32 x / 256 % 256) (by unfold N32; omega), byte_at x 2 (N32 x / 65536 % 256) (by unfold N32; omega), byte_at x 3 (N32 x / 16777216) (by unfold N32; omega)]
  rfl
set_option maxHeartbeats 1000000 in
theorem rapp_any (w : World) (B : Nat) (A : Option Addr) (cap : Nat) (l : List UInt8) (hR : Rd w B A (bv l)) (hB : B ≤ w.heap.size) (hl : l.length ≤ 140737488355320) :
    Calls Try.prog 22 #[.slice A l.length cap] w fun e w' => ∃ A' cap', e = .returned (.slice A' (l.length + 4) cap') ∧ w'.ownsRow w.heap.size 5 1 (.slice A' (l.length + 4) cap') (l.length + 4) (bv (withCrc l)) ∧ Below w.heap.size w w' := by
  obtain ⟨x, hx⟩ : ∃ x, x = crcU 0#32 l := ⟨_, rfl⟩
  have hsum := rsum_any w B A cap l hR (by omega)
  rw [← hx] at hsum
  have Hsum := Lib.hid hsum
  have Hx := Lib.hid hx
  clear hsum hx
  have hp := N32_pos x
  have hq := N32_le x
  go_enter Try.func22, Try.ntmps22
  go_wp2_with (first | (go_at_call 19; refine Hsum.out.mono ?_; rintro e w1 ⟨rfl, rfl⟩) | ((with_reducible refine wpList_app (o := ⟨some 8, _, _, _, _, _⟩) _ ?_ (.tmp 6) (.tmp 7) 23 ?_ w.heap.size 5 (.int .u8 0) 1 Try.underlying23 u8info ?_ (.slice (some ⟨w.heap.size, 0, none⟩) 0 0) 0 [] ?_ (own_empty (Blk.new _ _ _) (Nat.le_refl _)) B A l.length cap (bv l) ?_ (hR.alloc hB _) (bv_length l) bv_one ?_ ?_ ?_ ?_); rfl; rfl; rfl; rfl; rfl; (unfold maxLen; omega); omega; simp; intro A1 c1 w1 hown1 hg1; simp only [Nat.zero_add, List.nil_append] at hown1; have hb1 : Below w.heap.size w w1 := below_of_grown ((Below.refl _ _).alloc (Nat.le_refl _) _) (own_empty (Blk.new _ _ _) (Nat.le_refl _)) hg1 (by simp) (Nat.le_refl _)) | ((with_reducible refine wpList_app (o := ⟨some 24, _, _, _, _, _⟩) _ ?_ (.tmp 8) (.tmp 23) 23 ?_ w.heap.size 5 (.int .u8 0) 1 Try.underlying23 u8info ?_ (.slice A1 l.length c1) l.length (bv l) ?_ (hown1.alloc _) _ (some ⟨w1.heap.size, 0, none⟩) 4 4 _ ?_ (Rd.lit _ _ _) ?_ ?_ ?_ ?_ ?_ ?_); rfl; rfl; rfl; rfl; rfl; rfl; (intro u hu; simp only [List.mem_cons, List.not_mem_nil, or_false] at hu; rcases hu with rfl | rfl | rfl | rfl <;> rfl); (unfold maxLen; omega); omega; (have := hb1.size; simp; omega); intro A2 c2 w2 hown2 hg2))
  go_ret
  refine ⟨A2, c2, rfl, ?_, below_of_grown (hb1.alloc hb1.size _) (hown1.alloc _) hg2 (by have := hb1.size; simp; omega) (Nat.le_refl _)⟩
  rw [Hx.out, four_bytes, ← bv_append] at hown2
  exact hown2

theorem chk_str {P : Program} {w : World} {B : Nat} {A : Option Addr} {l : List UInt8} (hR : Rd w B A (bv l)) (src dst e : TypeId) (hs : P.underlying src = some (.slice e)) (he : P.underlying e = some (.int .u8))
    (hd : P.underlying dst = some .string) (cap : Nat) {n : Nat} (hn : l.length = n) : (convert src dst (.slice A n cap)).run P w = .ok (.string (bstr l)) w := by
  subst hn; exact run_str w hR src dst e hs he hd cap
set_option maxHeartbeats 1000000 in
theorem chk_any (w : World) (B : Nat) (A : Option Addr) (cap : Nat) (l : List UInt8) (hR : Rd w B A (bv l)) (hB : B ≤ w.heap.size) (hl : l.length ≤ 140737488355320) (hc : l.length ≤ cap) :
    Calls Try.prog 23 #[.slice A l.length cap] w fun e w' => e = .returned (.bool (checkB l)) ∧ Below w.heap.size w w' := by
  by_cases h4 : l.length < 4
  · have hb : checkB l = false := by unfold checkB; rw [decide_eq_false (by omega)]; rfl
    have Hb := Lib.hid hb
    clear hb
    go_enter Try.func23, Try.ntmps23
    go_wp2
    go_ret
    rw [Hb.out]
    exact ⟨rfl, Below.refl _ _⟩
  · obtain ⟨b, o, rfl, hbB, _⟩ := hR.byte (j := 0) (by omega)
    have hd : bv (l.take (l.length - 4)) = (bv l).take (l.length - 4) := by simp [bv]
    have hR2 : Rd w B (some ⟨b, o, none⟩) (bv (l.take (l.length - 4))) := by
      intro j u hu
      rw [hd, List.getElem?_take] at hu
      split at hu
      · exact hR j u hu
      · cases hu
    have hl2 : (l.take (l.length - 4)).length = l.length - 4 := by simp
    have h1 := run_str (P := Try.prog) w.drew hR.drew 23 9 5 Try.underlying23 Try.underlying5 Try.underlying9 cap
    have happ := app_any w.drew B (some ⟨b, o, none⟩) cap _ hR2.drew hB (by omega)
    rw [hl2, show l.length - 4 + 4 = l.length by omega] at happ
    have hwl : (withCrc (l.take (l.length - 4))).length = l.length := by rw [withCrc_length, hl2]; omega
    have Hwl := Lib.hid hwl
    clear hwl
    have hck : checkB l = decide (withCrc (l.take (l.length - 4)) = l) := by unfold checkB; rw [decide_eq_true (by omega), Bool.true_and]
    have Hck := Lib.hid hck
    clear hck
    have heq := bstr_beq (withCrc (l.take (l.length - 4))) l
    have Happ := Lib.hid happ
    have Hd := Lib.hid hd
    have Hl2 := Lib.hid hl2
    clear hd hl2 happ
    go_enter Try.func23, Try.ntmps23
    go_wp2
    go_region_with (go_at_call 21; refine Happ.out.mono ?_; rintro e w2 ⟨A', cap', rfl, hown, hb2⟩; have h2 := run_str (P := Try.prog) w2 (hR.drew.below hb2 hB) 23 9 5 Try.underlying23 Try.underlying5 Try.underlying9 cap; have h3 := chk_str (Rd.of_own hown) 23 9 5 Try.underlying23 Try.underlying5 Try.underlying9 cap' Hwl.out)
    all_goals
      go_wp2
      go_ret
      exact ⟨by rw [Hck.out]; rfl, (Below.refl _ _).drew.trans hb2⟩

end Go.Proofs.Ytdcnpkpibbefhaa
