/- The walk of the law CrcIsLinear. -/
import Derived.Test.YtdcnpkpibbefhaaCrcAlive
import Derived.Test.YtdcnpkpibbefhaaCrcBurstM
import Derived.Test.YtdcnpkpibbefhaaKit3
import Derived.WalkLawsBesides
import Derived.StillTailTactics
namespace Go.Proofs.Ytdcnpkpibbefhaa
open Go.RowKit
theorem run_min4 {P : Program} (ts : Array TypeId) (t : TypeId) (a b c d : Nat) (w : World) : (Builtin.min_ ts t #[.int .i64 (a : Int), .int .i64 (b : Int), .int .i64 (c : Int), .int .i64 (d : Int)]).run P w = .ok (.int .i64 ((min (min (min a b) c) d : Nat) : Int)) w := by
  simp only [Builtin.min_, List.foldlM, Builtin.min2, pure_bind, Sem.run_pure]
  congr 2
  split <;> split <;> split <;> omega
theorem lin_end (a b c d : BitVec 32) (h : a ^^^ b ^^^ c ^^^ d = 0#32) : Value.bool (bits .xor .u32 (bits .xor .u32 (bits .xor .u32 (N32 a) (N32 b)) (N32 c)) (N32 d) == 0) = .bool true := by
  rw [bits_xor32, bits_xor32, bits_xor32, h]
  rfl
set_option maxHeartbeats 2000000 in
theorem CrcIsLinear_walk (a0 : Option Addr) (len0 cap0 : Nat) (z0 : List Int) (a1 : Option Addr) (len1 cap1 : Nat) (z1 : List Int) (a2 : Option Addr) (len2 cap2 : Nat) (z2 : List Int) (w : World) (w0 : Row .u8 1 w a0 len0 cap0 z0) (w1 : Row .u8 1 w a1 len1 cap1 z1) (w2 : Row .u8 1 w a2 len2 cap2 z2) :
    Calls Try.prog 5 #[.slice a0 len0 cap0, .slice a1 len1 cap1, .slice a2 len2 cap2] w fun e w' => e = .returned (.bool true) ∧ Below w.heap.size w w' := by
  obtain ⟨la, rfl, hA, hac, hacap⟩ := rd_of_row w0
  obtain ⟨lb, rfl, hB, hbc, hbcap⟩ := rd_of_row w1
  obtain ⟨lc, rfl, hC, hcc, hccap⟩ := rd_of_row w2
  have hmin : ∀ w : World, (Builtin.min_ #[3, 3, 3, 3] 3 #[.int .i64 (la.length : Int), .int .i64 (lb.length : Int), .int .i64 (lc.length : Int), .int .i64 2000]).run Try.prog w = .ok (.int .i64 ((min (min (min la.length lb.length) lc.length) 2000 : Nat) : Int)) w := run_min4 (P := Try.prog) #[3, 3, 3, 3] 3 la.length lb.length lc.length 2000
  obtain ⟨n, hn⟩ : ∃ n, n = min (min (min la.length lb.length) lc.length) 2000 := ⟨_, rfl⟩
  rw [← hn] at hmin
  have na : n ≤ la.length := by omega
  have nb : n ≤ lb.length := by omega
  have nc : n ≤ lc.length := by omega
  have nd : n ≤ 2000 := by omega
  clear hn
  have hmk := mk_bytes n n (Nat.le_refl _) (by omega)
  go_enter Try.func5, Try.ntmps5
  go_wp2_with fail
  clear hmin hmk
  have hb0 : Below w.heap.size w (w.alloc (.cells (zeros n).toArray 5)) := (Below.refl _ _).alloc (Nat.le_refl _) _
  have hD0 : Blk (w.alloc (.cells (zeros n).toArray 5)) w.heap.size 5 (part (fun i => .int .u8 (((la.getD i 0 ^^^ lb.getD i 0 ^^^ lc.getD i 0).toNat : Nat) : Int)) (.int .u8 0) n 0) := by
    rw [← zeros_part]; exact Blk.new _ _ _
  generalize w.alloc (.cells (zeros n).toArray 5) = W0 at hb0 hD0 ⊢
  go_loopw [21] (fun i wr => ∃ k : Nat, k ≤ n ∧ i = .int .i64 k ∧ Below w.heap.size w wr ∧ Blk wr w.heap.size 5 (part (fun i => .int .u8 (((la.getD i 0 ^^^ lb.getD i 0 ^^^ lc.getD i 0).toNat : Nat) : Int)) (.int .u8 0) n k)) (fun i _ => n - (intOf i).toNat)
  case atStart => exact ⟨0, by omega, rfl, hb0, hD0⟩
  case round =>
    clear hb0 hD0
    obtain ⟨k, hk, rfl, hb, hD⟩ := hrel
    by_cases hlt : k < n
    · obtain ⟨ba, oa, rfl, hba, hca⟩ := (hA.below hb (Nat.le_refl _)).byte (j := k) (by omega)
      obtain ⟨bb, ob, rfl, hbb, hcb⟩ := (hB.below hb (Nat.le_refl _)).byte (j := k) (by omega)
      obtain ⟨bc, oc, rfl, hbc', hcc'⟩ := (hC.below hb (Nat.le_refl _)).byte (j := k) (by omega)
      have hcd : wr.cell? ⟨w.heap.size, k, none⟩ = some (.int .u8 0) := by rw [hD.cell, part_get _ _ _ _ _ hlt, if_neg (by omega)]
      have hfd := hD.frozen k
      have l1 : (k : Int) < (la.length : Int) := by omega
      have l2 : (k : Int) < (lb.length : Int) := by omega
      have l3 : (k : Int) < (lc.length : Int) := by omega
      go_wp2_with fail
      go_still_tail 17, (by kernel_rfl)
      change wpList _ _ _ _ _ wr.drew
      go_wp2_with fail
      refine ⟨⟨k + 1, by omega, by go_num, (hb.setCell (Nat.le_refl _) _).drew, ?_⟩, by simp [intOf]; omega⟩
      have hv : Value.int .u8 (bits .xor .u8 (bits .xor .u8 ((la[k]).toNat : Int) ((lb[k]).toNat : Int)) ((lc[k]).toNat : Int)) = .int .u8 (((la.getD k 0 ^^^ lb.getD k 0 ^^^ lc.getD k 0).toNat : Nat) : Int) := by
        rw [xor8, xor8]
        simp [List.getD, show k < la.length by omega, show k < lb.length by omega, show k < lc.length by omega]
      have hset := hD.set_ k (Value.int .u8 (((la.getD k 0 ^^^ lb.getD k 0 ^^^ lc.getD k 0).toNat : Nat) : Int))
      rw [part_set (fun i => .int .u8 (((la.getD i 0 ^^^ lb.getD i 0 ^^^ lc.getD i 0).toNat : Nat) : Int))] at hset
      rw [hv]
      exact hset.drew
    · have hkn : k = n := by omega
      have hRd : Rd wr wr.heap.size (some ⟨w.heap.size, 0, none⟩) (bv (x3 (la.take n) (lb.take n) (lc.take n))) := by
        refine Rd.of_blk hD ?_
        intro j u hu
        have hj : j < n := by
          have := (List.getElem?_eq_some_iff.1 hu).1
          rw [bv_length, x3_length _ _ _ (by simp; omega) (by simp; omega)] at this
          simp at this
          omega
        rw [part_get _ _ _ _ _ hj, if_pos (by omega)]
        simp only [bv, List.getElem?_map] at hu
        rw [x3_get _ _ _ j (by simp; omega) (by simp; omega) (by simp; omega)] at hu
        simp only [Option.map_some, List.getElem_take] at hu
        rw [← hu]
        simp [List.getD, show j < la.length by omega, show j < lb.length by omega, show j < lc.length by omega]
      have hx3 : (x3 (la.take n) (lb.take n) (lc.take n)).length = n := by
        rw [x3_length _ _ _ (by simp; omega) (by simp; omega)]; simp; omega
      have hzero := crcU_x3 (la.take n) (lb.take n) (lc.take n) (by simp; omega) (by simp; omega)
      have cA : ∀ W, Below wr.heap.size wr W → Calls Try.prog 18 #[.slice a0 n cap0] W fun e W' => e = .returned (.int .u32 (N32 (crcU 0#32 (la.take n)))) ∧ Below wr.heap.size wr W' := by
        intro W hW
        have h := sum_any W w.heap.size a0 cap0 (la.take n) (((hA.below hb (Nat.le_refl _)).below hW hb.size).cut n) (Nat.le_trans hb.size hW.size) (by simp; omega)
        rw [show (la.take n).length = n by simp; omega] at h
        exact h.mono fun e W' ⟨he, hb'⟩ => ⟨he, hW.trans (hb'.mono hW.size)⟩
      have cB : ∀ W, Below wr.heap.size wr W → Calls Try.prog 18 #[.slice a1 n cap1] W fun e W' => e = .returned (.int .u32 (N32 (crcU 0#32 (lb.take n)))) ∧ Below wr.heap.size wr W' := by
        intro W hW
        have h := sum_any W w.heap.size a1 cap1 (lb.take n) (((hB.below hb (Nat.le_refl _)).below hW hb.size).cut n) (Nat.le_trans hb.size hW.size) (by simp; omega)
        rw [show (lb.take n).length = n by simp; omega] at h
        exact h.mono fun e W' ⟨he, hb'⟩ => ⟨he, hW.trans (hb'.mono hW.size)⟩
      have cC : ∀ W, Below wr.heap.size wr W → Calls Try.prog 18 #[.slice a2 n cap2] W fun e W' => e = .returned (.int .u32 (N32 (crcU 0#32 (lc.take n)))) ∧ Below wr.heap.size wr W' := by
        intro W hW
        have h := sum_any W w.heap.size a2 cap2 (lc.take n) (((hC.below hb (Nat.le_refl _)).below hW hb.size).cut n) (Nat.le_trans hb.size hW.size) (by simp; omega)
        rw [show (lc.take n).length = n by simp; omega] at h
        exact h.mono fun e W' ⟨he, hb'⟩ => ⟨he, hW.trans (hb'.mono hW.size)⟩
      have cD : ∀ W, Below wr.heap.size wr W → Calls Try.prog 18 #[.slice (some ⟨w.heap.size, 0, none⟩) n n] W fun e W' => e = .returned (.int .u32 (N32 (crcU 0#32 (x3 (la.take n) (lb.take n) (lc.take n))))) ∧ Below wr.heap.size wr W' := by
        intro W hW
        have h := sum_any W wr.heap.size (some ⟨w.heap.size, 0, none⟩) n _ (hRd.below hW (Nat.le_refl _)) hW.size (by omega)
        rw [hx3] at h
        exact h.mono fun e W' ⟨he, hb'⟩ => ⟨he, hW.trans (hb'.mono hW.size)⟩
      have cV : ∀ W, Below wr.heap.size wr W → Calls Try.prog 15 #[] W fun e W' => e = .returned (.bool true) ∧ Below wr.heap.size wr W' := by
        intro W hW
        exact (alive_any W).mono fun e W' ⟨he, hb'⟩ => ⟨he, hW.trans (hb'.mono hW.size)⟩
      have CA := Lib.hid cA
      have CB := Lib.hid cB
      have CC := Lib.hid cC
      have CD := Lib.hid cD
      have CV := Lib.hid cV
      have HZ := Lib.hid hzero
      have HB := hb
      clear cA cB cC cD cV hzero hx3 hRd hD hA hB hC hkn
      have ka : n ≤ cap0 := by omega
      have kb : n ≤ cap1 := by omega
      have kc : n ≤ cap2 := by omega
      go_wp2_with fail
      clear hacap hbcap hccap hac hbc hcc na nb nc nd hk hlt w0 w1 w2
      refine wp_region_lat wr.heap.size wr (Below.refl _ _) (by kernel_rfl) (by kernel_rfl) ?_
      repeat (go_big_quiet_step (first | (go_at_call 15; exact lat_call _ CV.out) | (go_at_call_of 18 (Value.slice a0 n cap0); exact lat_call _ CA.out) | (go_at_call_of 18 (Value.slice a1 n cap1); exact lat_call _ CB.out) | (go_at_call_of 18 (Value.slice a2 n cap2); exact lat_call _ CC.out) | (go_at_call_of 18 (Value.slice (some ⟨w.heap.size, 0, none⟩) n n); exact lat_call _ CD.out)))
      refine wpQuiet_nil ?_
      intro _ hw'
      obtain ⟨nq, hw''⟩ := hw'
      subst hw''
      go_wp2_with fail
      go_ret
      refine ⟨ret_eq ?_, hb.trans (nq.below.mono hb.size)⟩
      exact lin_end _ _ _ _ HZ.out
end Go.Proofs.Ytdcnpkpibbefhaa
