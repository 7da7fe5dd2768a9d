/- The walk of the law CrcIsolated. -/
import Derived.Test.YtdcnpkpibbefhaaCrcAlive
import Derived.Test.YtdcnpkpibbefhaaKit3
namespace Go.Proofs.Ytdcnpkpibbefhaa
open Go.RowKit
set_option maxHeartbeats 2000000 in
theorem CrcIsolated_walk (a0 : Option Addr) (len0 cap0 : Nat) (z0 : List Int) (w : World) (w0 : Row .u8 1 w a0 len0 cap0 z0) :
    Calls Try.prog 8 #[.slice a0 len0 cap0] w fun e w' => e = .returned (.bool true) ∧ Below w.heap.size w w' := by
  obtain ⟨l, rfl, hR, hlc, hcap⟩ := rd_of_row w0
  by_cases h : 5000 < l.length
  · go_enter Try.func8, Try.ntmps8
    go_wp2_with (go_at_call 15; refine (alive_any _).mono ?_; rintro e w1 ⟨rfl, hb1⟩)
    go_ret
    exact ⟨rfl, hb1⟩
  · have hmk : ∀ w : World, (Instr.makeSlice 23 (.int .i64 0) (.int .i64 ((l.length : Int) + 8))).run Try.prog w = .ok (.slice (some ⟨w.heap.size, 0, none⟩) 0 (l.length + 8)) (w.alloc (.cells (zeros (l.length + 8)).toArray 5)) := by
      intro w
      have h := mk_bytes 0 (l.length + 8) (by omega) (by omega) w
      rw [show ((l.length + 8 : Nat) : Int) = (l.length : Int) + 8 by omega] at h
      exact h
    go_enter Try.func8, Try.ntmps8
    go_wp2_with ((with_reducible refine wpList_app_room (o := ⟨some 18, _, _, _, _, _⟩) _ ?_ (.tmp 16) (.tmp 17) 23 ?_ 5 (.int .u8 0) 1 Try.underlying23 u8info w.heap.size 0 (l.length + 8) (zeros (l.length + 8)) (Blk.new _ _ _) ?_ w.heap.size a0 l.length cap0 (bv l) ?_ (hR.alloc (Nat.le_refl _) _) (bv_length l) bv_one ?_ ?_ ?_); rfl; rfl; rfl; rfl; omega; (rw [zeros_length]; omega); intro w2 hg2 hgr2)
    obtain ⟨L, hL⟩ : ∃ L, L = splice (zeros (l.length + 8)) 0 (bv l) := ⟨_, rfl⟩
    have hLl : L.length = l.length + 8 := by rw [hL, length_splice _ _ _ (by rw [bv_length, zeros_length]; omega), zeros_length]
    have hL1 : ∀ (j : Nat) (u : Value), (bv l)[j]? = some u → L.toArray[j]? = some u := by
      intro j u hu
      have hj : j < (bv l).length := (List.getElem?_eq_some_iff.1 hu).1
      rw [hL]
      simp [splice, List.getElem?_append_left hj, hu]
    have hL2 : ∀ j, j < 8 → L[l.length + j]? = some (.int .u8 0) := by
      intro j hj
      rw [hL]
      simp only [splice, List.take_zero, List.nil_append, Nat.zero_add]
      rw [List.getElem?_append_right (by rw [bv_length]; omega), bv_length, List.getElem?_drop, zeros, List.getElem?_replicate, if_pos (by omega)]
    rw [← hL] at hg2
    have hB2 : Blk w2 w.heap.size 5 L.toArray := hg2.out
    have hb2 : Below w.heap.size w w2 := ((Below.refl _ _).alloc (Nat.le_refl _) _).grown hgr2 (by simp) (fun k hk => by simp at hk; omega)
    have hRc := Rd.of_blk hB2 hL1
    clear hg2 hgr2 hL hmk
    refine (app_any w2 w2.heap.size _ (l.length + 8) l hRc (Nat.le_refl _) (by omega)).mono ?_
    rintro e w3 ⟨A3, c3, rfl, hown3, hb3⟩
    obtain ⟨g3, cs3, rfl, hg3, hB3, htk3, hn3⟩ := own_some hown3 (by omega)
    have hall3 : ∀ j, j < l.length + 4 → ∃ x : Int, cs3[j]? = some (.int .u8 x) := by
      intro j hj
      have hj' : j < (withCrc l).length := by rw [withCrc_length]; exact hj
      have := congrArg (fun ys => ys[j]?) htk3
      simp only [List.getElem?_take, if_pos hj, bv_get hj'] at this
      exact ⟨_, by simpa using this⟩
    have hlt := hB2.lt
    clear hown3 htk3
    go_wp2_with fail
    go_loopw [23] (fun i wr => ∃ k : Nat, k ≤ l.length + 4 ∧ i = .int .i64 k ∧ Below w2.heap.size w2 wr ∧ ∃ cs : Array Value, Blk wr g3 5 cs ∧ l.length + 4 ≤ cs.size ∧ ∀ j, j < l.length + 4 → ∃ x : Int, cs[j]? = some (.int .u8 x)) (fun i _ => (l.length + 4) - (intOf i).toNat)
    case atStart => exact ⟨0, by omega, rfl, hb3, cs3, hB3, hn3, hall3⟩
    case round =>
      clear hB3 hb3 hall3 hn3
      obtain ⟨k, hk, rfl, hb, cs, hB, hn, hall⟩ := hrel
      by_cases hk4 : k < l.length + 4
      · obtain ⟨x, hx⟩ := hall k hk4
        have hc : wr.cell? ⟨g3, k, none⟩ = some (.int .u8 x) := by rw [hB.cell, hx]
        have hf := hB.frozen k
        have hall' := Lib.hid hall
        clear hall hx
        go_wp2_with fail
        refine ⟨⟨k + 1, by omega, by go_num, hb.setCell hg3 _, _, hB.set_ k _, by simpa using hn, ?_⟩, by simp [intOf]; omega⟩
        intro j hj
        by_cases hjk : k = j
        · subst hjk
          exact ⟨_, by simp [show k < cs.size by omega]; rfl⟩
        · obtain ⟨y, hy⟩ := hall'.out j hj
          exact ⟨y, by rw [Array.getElem?_setIfInBounds_ne hjk]; exact hy⟩
      · have hBc := hB2.below hb hlt
        clear hB hall hn
        go_wp2_with fail
        go_loop [42] (fun i => ∃ k : Nat, k ≤ 8 ∧ i = .int .i64 k) (fun i => 8 - (intOf i).toNat)
        case atStart => exact ⟨0, by omega, rfl⟩
        case round =>
          obtain ⟨k2, hk2, rfl⟩ := hrel
          by_cases hk8 : k2 < 8
          · have hc : wr.cell? ⟨w.heap.size, l.length + k2, none⟩ = some (.int .u8 0) := by
              rw [hBc.cell, List.getElem?_toArray, hL2 k2 hk8]
            go_wp2_with fail
            exact ⟨⟨k2 + 1, by omega, by go_num⟩, by simp [intOf]; omega⟩
          · have hRb := (hR.below hb2 (Nat.le_refl _)).below hb hb2.size
            have hRc' := hRc.below hb (Nat.le_refl _)
            have hb5 : Below w.heap.size w wr := hb2.trans (hb.mono hb2.size)
            go_wp2_with fail
            refine (alive_any _).mono ?_
            rintro e w6 ⟨rfl, hb6⟩
            have heq := eq_any w6 w.heap.size w2.heap.size a0 (some ⟨w.heap.size, 0, none⟩) cap0 (l.length + 8) l l (hRb.below hb6 hb5.size) (hRc'.below hb6 hb.size)
            rw [decide_eq_true rfl] at heq
            have Heq := Lib.hid heq
            clear heq hL2 hL1 hRc hBc hB2 hLl
            go_wp2_with fail
            refine Heq.out.mono ?_
            rintro e w7 ⟨rfl, rfl⟩
            go_wp2_with fail
            go_ret
            exact ⟨rfl, hb5.trans (hb6.mono hb5.size)⟩
end Go.Proofs.Ytdcnpkpibbefhaa
