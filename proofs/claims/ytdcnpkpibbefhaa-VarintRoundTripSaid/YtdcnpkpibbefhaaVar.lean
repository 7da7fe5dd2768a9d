/- The walks of varint.Size, varint.Put and the reference's Put. -/
import Derived.Test.YtdcnpkpibbefhaaProg
import Derived.Test.YtdcnpkpibbefhaaVarM
import Derived.Test.YtdcnpkpibbefhaaKit3
import Derived.Test.YtdcnpkpibbefhaaVarLen
namespace Go.Proofs.Ytdcnpkpibbefhaa
open Go.RowKit
theorem u64_or1 (n : Nat) (h : n < 18446744073709551616) : bits .or .u64 (n : Int) 1 = ((n ||| 1 : Nat) : Int) := u64_or_nat n 1 h (by omega)
set_option maxHeartbeats 1000000 in
theorem size_any (n : Nat) (w : World) (h : n < 18446744073709551616) :
    Calls Try.prog 29 #[.int .u64 (n : Int)] w fun e w' => e = .returned (.int .i64 (sizeN n : Nat)) ∧ w = w' := by
  have hor := u64_or1 n h
  obtain ⟨m, hm⟩ : ∃ m, m = n ||| 1 := ⟨_, rfl⟩
  have hml : m < 2 ^ 64 := by rw [hm]; exact or_one_lt n 64 h (by omega)
  rw [← hm] at hor
  have hle := Lib.bitLen_le m 64 (by omega) hml
  have hlen := fun w => len64_any (m : Int) w (by omega) (by omega)
  simp only [Int.toNat_natCast] at hlen
  have Hlen := Lib.hid hlen
  have Hm := Lib.hid hm
  clear hlen hm h hml
  obtain ⟨b, hb⟩ : ∃ b, b = Lib.bitLen m := ⟨_, rfl⟩
  rw [← hb] at hle
  have Hb := Lib.hid hb
  clear hb
  go_enter Try.func29, Try.ntmps29
  go_wp2_with (go_at_call 40; refine (Hlen.out _).mono ?_; rintro e w1 ⟨rfl, rfl⟩; rw [← Hb.out])
  go_ret
  refine ⟨ret_eq (int_eq ?_), rfl⟩
  unfold sizeN
  rw [← Hm.out, ← Hb.out]
  omega
theorem or128 (m : Nat) : bits .or .u8 ((m : Int) % (256 : Int)) 128 = (((UInt8.ofNat (m % 128 + 128)).toNat : Nat) : Int) := by
  rw [show (m : Int) % (256 : Int) = ((m % 256 : Nat) : Int) by omega, show (128 : Int) = ((128 : Nat) : Int) by rfl, u8_or_nat _ _ (by omega) (by omega), UInt8.toNat_ofNat']
  congr 1
  have h : ∀ j : Fin 256, j.val ||| 128 = (j.val % 128 + 128) % 2 ^ 8 := by decide +kernel
  have := h ⟨m % 256, by omega⟩
  simp only at this
  rw [this]
  omega
theorem u8info_v : (Try.prog.info? 5).map (fun i => (i.zero, i.size, i.bytes)) = some (some (.int .u8 0), 1, 1) := by kernel_rfl
theorem mk_cap (c : Nat) (h : c ≤ 281474976710656) (w : World) :
    (Instr.makeSlice 23 (.int .i64 0) (.int .i64 (c : Int))).run Try.prog w = .ok (.slice (some ⟨w.heap.size, 0, none⟩) 0 c) (w.alloc (.cells (zeros c).toArray 5)) := by
  obtain ⟨i, hi, hz, hs, hb⟩ := info_parts u8info_v
  exact run_mk 23 5 i Try.underlying23 hi hz hs hb 0 c (by omega) h w
theorem one_byte (n : Int) : ∀ u ∈ [Value.int .u8 n], u.oneCell' = true := by
  intro u hu
  obtain rfl : u = .int .u8 n := by simpa using hu
  rfl
theorem bv_small (x : Nat) (h : x < 256) : bv [UInt8.ofNat x] = [.int .u8 (x : Int)] := by
  have e : (UInt8.ofNat x).toNat = x := by rw [UInt8.toNat_ofNat']; omega
  simp only [bv, List.map_cons, List.map_nil, e]
set_option maxHeartbeats 1000000 in
set_option maxRecDepth 20000 in
theorem put_any (n : Nat) (w : World) (h : n < 18446744073709551616) :
    Calls Try.prog 26 #[.int .u64 (n : Int)] w fun e w' => ∃ A c, e = .returned (.slice A (put n).length c) ∧ w'.ownsRow w.heap.size 5 1 (.slice A (put n).length c) (put n).length (bv (put n)) ∧ Below w.heap.size w w' := by
  have hn := Lib.hid h
  have hsz := size_put n h
  have hpl := put_length n h
  obtain ⟨c, hc⟩ : ∃ c, c = (put n).length := ⟨_, rfl⟩
  have hmk := mk_cap c (by omega)
  have hsize := fun w => size_any n w h
  rw [hsz, ← hc] at hsize
  have Hsize := Lib.hid hsize
  clear hsize hsz h
  obtain ⟨i0, hi0, hz0, hs0, hby0⟩ := info_parts u8info_v
  have hc10 : c ≤ 10 := by omega
  have Hc := Lib.hid hc
  clear hc hpl
  go_enter Try.func26, Try.ntmps26
  go_wp2_with (go_at_call 29; refine (Hsize.out _).mono ?_; rintro e w1 ⟨rfl, rfl⟩)
  have hown0 : (w.alloc (.cells (zeros c).toArray 5)).ownsRow w.heap.size 5 1 (.slice (some ⟨w.heap.size, 0, none⟩) 0 c) 0 (bv []) :=
    own_of_blk (Blk.new _ _ _) (Nat.le_refl _) (zeros_length _) (by omega) (by unfold maxLen; omega) rfl
  have hb0 : Below w.heap.size w (w.alloc (.cells (zeros c).toArray 5)) := (Below.refl _ _).alloc (Nat.le_refl _) _
  generalize w.alloc (.cells (zeros c).toArray 5) = W0 at hown0 hb0 ⊢
  clear hmk
  go_loopw [0, 3] (fun m v wr => ∃ (pre : List UInt8) (x : Nat), put n = pre ++ put x ∧ Hid (x < 18446744073709551616) ∧ m = .int .u64 (x : Int) ∧ v = .slice (some ⟨w.heap.size, 0, none⟩) pre.length c ∧
      wr.ownsRow w.heap.size 5 1 (.slice (some ⟨w.heap.size, 0, none⟩) pre.length c) pre.length (bv pre) ∧ Below w.heap.size w wr) (fun m _ _ => (intOf m).toNat)
  case atStart => exact ⟨[], n, rfl, hn, rfl, rfl, hown0, hb0⟩
  case round =>
    clear hown0 hb0
    obtain ⟨pre, x, hpre, hx, rfl, rfl, hown, hb⟩ := hrel
    have hlen : pre.length + 1 ≤ c := by
      have h1 := (put_length x hx.out).1
      rw [Hc.out, hpre, List.length_append]; omega
    have Hpre := Lib.hid hpre
    clear hpre
    by_cases h128 : 128 ≤ x
    · have hor := or128 x
      go_wp2_with (at_builtin; ((with_reducible refine wpList_append_fits (o := ⟨some 16, _, _, _, _, _⟩) _ ?_ (.tmp 11) (.tmp 15) 23 ?_ w.heap.size 5 i0 1 Try.underlying23 hi0 hs0 w.heap.size pre.length c (bv pre) ?_ (hown.alloc _) ⟨wr.heap.size, 0, none⟩ 1 1 [.int .u8 (((UInt8.ofNat (x % 128 + 128)).toNat : Nat) : Int)] ?_ ?_ ?_ ?_ ?_ ?_); rfl; rfl; rfl; rfl; rfl; exact (cell_one_new _ _ _); exact (one_byte _); omega; intro w4 hown4 hgr4))
      have hs : put x = UInt8.ofNat (x % 128 + 128) :: put (x / 128) := put_step x h128 hx.out
      have hb4 := (hb.alloc hb.size (.cells #[.int .u8 (((UInt8.ofNat (x % 128 + 128)).toNat : Nat) : Int)] 5)).grown hgr4 (Nat.le_trans hb.size (by simp)) (fun g hg => by simp at hg; omega)
      refine ⟨⟨pre ++ [UInt8.ofNat (x % 128 + 128)], x / 128, by rw [Hpre.out, hs]; simp, (show x / 128 < 18446744073709551616 by have := hx.out; omega), int_eq (by omega), by simp, ?_, hb4⟩, by simp [intOf]; omega⟩
      rw [bv_append, List.length_append]
      exact hown4
    · go_wp2_with (at_builtin; ((with_reducible refine wpList_append_fits (o := ⟨some 21, _, _, _, _, _⟩) _ ?_ (.tmp 17) (.tmp 20) 23 ?_ w.heap.size 5 i0 1 Try.underlying23 hi0 hs0 w.heap.size pre.length c (bv pre) ?_ (hown.alloc _) ⟨wr.heap.size, 0, none⟩ 1 1 [.int .u8 (x : Int)] ?_ ?_ ?_ ?_ ?_ ?_); rfl; rfl; rfl; rfl; rfl; exact (cell_one_new _ _ _); exact (one_byte _); omega; intro w4 hown4 hgr4))
      go_ret
      have hs : put x = [UInt8.ofNat x] := put_small x (by omega)
      have hp : put n = pre ++ [UInt8.ofNat x] := by rw [Hpre.out, hs]
      have hpl : (put n).length = pre.length + 1 := by rw [hp]; simp
      refine ⟨some ⟨w.heap.size, 0, none⟩, c, (by rw [hpl]; rfl), ?_, (hb.alloc hb.size _).grown hgr4 (Nat.le_trans hb.size (by simp)) (fun g hg => by simp at hg; omega)⟩
      rw [hpl, hp, bv_append]
      have hx1 := bv_small x (by omega)
      rw [hx1]
      exact hown4
theorem add128 (x : Nat) : ((x : Int) % (128 : Int) + (128 : Int)) = (((UInt8.ofNat (x % 128 + 128)).toNat : Nat) : Int) := by
  rw [UInt8.toNat_ofNat']; omega
set_option maxHeartbeats 1000000 in
set_option maxRecDepth 20000 in
theorem rput_any (k : Nat) : ∀ (n : Nat) (w : World), n < 128 ^ k → Hid (n < 18446744073709551616) →
    Calls Try.prog 28 #[.int .u64 (n : Int)] w fun e w' => ∃ A c, e = .returned (.slice A (put n).length c) ∧ w'.ownsRow w.heap.size 5 1 (.slice A (put n).length c) (put n).length (bv (put n)) ∧ Below w.heap.size w w' := by
  induction k with
  | zero =>
    intro n w hk hn
    obtain rfl : n = 0 := by simpa using hk
    have hp : put 0 = [0] := rfl
    rw [hp]
    clear hk hn hp
    go_enter Try.func28, Try.ntmps28
    go_wp2_with fail
    go_ret
    exact ⟨_, _, rfl, World.ownsRow_lit w _ 1 (Nat.le_refl _) (by unfold maxLen; omega) rfl, (Below.refl _ _).alloc (Nat.le_refl _) _⟩
  | succ k ih =>
    intro n w hk hn
    by_cases h : n < 128
    · have hp := put_small n h
      rw [hp]
      have hb := bv_small n (by omega)
      rw [hb]
      clear hp hb hk
      go_enter Try.func28, Try.ntmps28
      go_wp2_with fail
      go_ret
      exact ⟨_, _, rfl, World.ownsRow_lit w _ 1 (Nat.le_refl _) (by unfold maxLen; omega) rfl, (Below.refl _ _).alloc (Nat.le_refl _) _⟩
    · have hp := put_step n (by omega) hn.out
      have hr := fun w => ih (n / 128) w (by rw [Nat.pow_succ] at hk; omega) (show n / 128 < 18446744073709551616 by have := hn.out; omega)
      rw [show ((n / 128 : Nat) : Int) = (n : Int) / (128 : Int) by omega] at hr
      have hpl := (put_length (n / 128) (by have := hn.out; omega)).2
      have hw : IntKind.u64.wrap ((n : Int) / (128 : Int)) = (n : Int) / (128 : Int) := by rw [IntKind.wrap_u64]; have := hn.out; omega
      have Hp := Lib.hid hp
      have Hr := Lib.hid hr
      have Hih := Lib.hid ih
      clear hp hr hk ih
      go_enter Try.func28, Try.ntmps28
      go_wp2_with fail
      ((with_reducible refine (Hr.out _).mono ?_); rintro e w1 ⟨A1, c1, rfl, hown1, hb1⟩)
      have hown0 : (w.alloc (.cells #[.int .u8 ((n : Int) % (128 : Int) + (128 : Int))] 5)).ownsRow w.heap.size 5 1 (.slice (some ⟨w.heap.size, 0, none⟩) 1 1) 1 [.int .u8 ((n : Int) % (128 : Int) + (128 : Int))] :=
        World.ownsRow_lit w _ 1 (Nat.le_refl _) (by unfold maxLen; omega) rfl
      have hg1 : (w.alloc (.cells #[.int .u8 ((n : Int) % (128 : Int) + (128 : Int))] 5)).grownBy w1 none := ⟨hb1.os, hb1.tape, hb1.output, hb1.size, fun k hk _ => hb1.block k hk⟩
      have hown2 := hown0.kept hg1 (by simp [Value.ownBlock])
      have hsz : w.heap.size + 1 ≤ w1.heap.size := by have := hb1.size; simpa using this
      have hRd := Rd.of_own hown1
      have hb2 : Below w.heap.size w w1 := ((Below.refl _ _).alloc (Nat.le_refl _) _).trans (hb1.mono (by simp))
      clear hown0 hg1 hown1
      go_wp2_with (at_builtin; ((with_reducible refine wpList_app (o := ⟨some 16, _, _, _, _, _⟩) _ ?_ (.tmp 12) (.tmp 15) 23 ?_ w.heap.size 5 (.int .u8 0) 1 Try.underlying23 u8info_v ?_ (.slice (some ⟨w.heap.size, 0, none⟩) 1 1) 1 [.int .u8 ((n : Int) % (128 : Int) + (128 : Int))] ?_ hown2 w1.heap.size A1 (put (n / 128)).length c1 (bv (put (n / 128))) ?_ hRd (bv_length _) bv_one ?_ ?_ ?_ ?_); rfl; rfl; rfl; rfl; rfl; (unfold maxLen; omega); omega; omega; intro A3 c3 w3 hown3 hg3))
      go_ret
      have hpl2 : (put n).length = 1 + (put (n / 128)).length := by rw [Hp.out]; simp; omega
      have hbv : bv (put n) = [.int .u8 ((n : Int) % (128 : Int) + (128 : Int))] ++ bv (put (n / 128)) := by
        rw [Hp.out, add128]; rfl
      refine ⟨A3, c3, (by rw [hpl2]; rfl), ?_, hb2.grown hg3 (by omega) (fun g hg => by simp [Value.ownBlock] at hg; omega)⟩
      rw [hpl2, hbv]
      exact hown3
end Go.Proofs.Ytdcnpkpibbefhaa
