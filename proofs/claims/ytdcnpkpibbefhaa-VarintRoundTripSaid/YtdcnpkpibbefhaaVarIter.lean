/- The contract of varint.groups: the iterator over the bytes of an encoding. After the kit's worked text for slices.All, turned to this iterator. -/
import Derived.RangeFuncNested
import Derived.RangeFuncBound
import Derived.RangeFuncCalls
import Derived.RangeFuncLeaves
import Derived.RangeFuncBox
import Derived.Shelf.Abstract
import Derived.Shelf.RegionOpen
import Derived.WalkKit
import Derived.OwnWalkIn
import Derived.TacticsInMore
import Derived.LoopNIn
import Derived.LoopIn
import Derived.Test.YtdcnpkpibbefhaaProg
import Derived.Test.YtdcnpkpibbefhaaVarM
import Derived.Test.YtdcnpkpibbefhaaKit3
namespace Go.Proofs.Ytdcnpkpibbefhaa
open Go.RowKit Go.Shelf
attribute [local go_sem] Oper.semAt_some
/-- What has come when k rounds are over. -/
def upto {α : Type} (f : Nat → α) (k : Nat) : List α := (List.range k).map f
theorem upto_succ {α : Type} (f : Nat → α) (k : Nat) : upto f (k + 1) = upto f k ++ [f k] := by simp [upto, List.range_succ]
theorem upto_length {α : Type} (f : Nat → α) (k : Nat) : (upto f k).length = k := by simp [upto]

set_option maxRecDepth 100000 in
set_option maxHeartbeats 4000000 in
theorem groups1_in {α : Type} (encs : α → Array Value) (f : Nat → α) (F : Fence) (n : Nat) (hF : F.fn 43) (hro : F.round = none) (hn : 1 ≤ n) (l Bs n₀ b off cap : Nat) (bs : List UInt8) (hreach : bs.length ≤ 281474976706560) (hb : b < n₀)
    (hf : ∀ j, j < bs.length → encs (f j) = #[.int .i64 (j : Int), .int .u8 ((bs.getD j 0).toNat : Int)]) (J Jx : List α → World → Prop)
    (hY : ∀ pre x W, J pre W → pre.length < bs.length → YieldAt F (n - 1) Try.prog l (encs x) W fun e W' =>
      (e = .returned (.bool true) ∧ J (pre ++ [x]) W' ∧ Below n₀ W W') ∨ (e = .returned (.bool false) ∧ Jx (pre ++ [x]) W'))
    (W : World) (hBs : W.cell? ⟨Bs, 0, none⟩ = some (.slice (some ⟨b, off, none⟩) bs.length cap)) (hc : ∀ j, j < bs.length → W.cell? ⟨b, off + j, none⟩ = some (.int .u8 ((bs.getD j 0).toNat : Int))) (h0 : J [] W) :
    CallsIn F n Try.prog 43 #[.func (.yield l) #[] #[], .pointer (some ⟨Bs, 0, none⟩)] W fun e W' => (∃ v, e = .returned v) ∧
      ((∃ ys, (∃ k, k ≤ bs.length ∧ ys = upto f k ∧ (k = bs.length ∨ ∃ j, k = j + 1 ∧ (bs.getD j 0).toNat < 128)) ∧ J ys W') ∨ (∃ pre, (∃ k, k ≤ bs.length ∧ pre = upto f k) ∧ Jx pre W')) := by
  refine callsIn_of_wp Try.func43 rfl hF ?_ hro
  simp only [Try.ntmps43, List.size_toArray, List.length_cons, List.length_nil, Nat.reduceAdd, Nat.reduceSub, Array.replicate_succ, Array.replicate_zero, List.push_toArray, List.append_toArray, List.nil_append, List.cons_append]
  gi_wp2
  gi_loopw [7] (fun i wr => ∃ k : Nat, k ≤ bs.length ∧ i = .int .i64 k ∧ J (upto f k) wr ∧ Below n₀ W wr)
    (fun i _ => bs.length - (intOf i).toNat)
  case atStart => exact ⟨0, Nat.zero_le _, rfl, h0, Below.refl _ _⟩
  case round =>
    obtain ⟨k, hk, rfl, hJs, hnx⟩ := hrel
    have hcx : k < bs.length → wr.cell? ⟨b, off + k, none⟩ = some (.int .u8 ((bs.getD k 0).toNat : Int)) := fun h => (hnx.cell (p := ⟨b, off + k, none⟩) hb).trans (hc k h)
    by_cases hlt : k < bs.length
    · obtain ⟨fn, tmps, assign, body, hy, hR⟩ := hY _ (f k) wr hJs (by rw [upto_length]; exact hlt)
      rw [hf k hlt] at hy
      have hcx' := hcx hlt
      obtain ⟨c, hcd⟩ : ∃ c, c = bs.getD k 0 := ⟨_, rfl⟩
      rw [← hcd] at hy hcx'
      have Hcd := Lib.hid hcd
      have Hf := Lib.hid hf
      have Hc := Lib.hid hc
      clear hcd hcx hf hc
      gi_wp2
      refine hR.mono ?_
      rintro e W3 (⟨rfl, hJ3, hk3⟩ | ⟨rfl, hJx3⟩)
      · gi_wp2
        · have hc128 : (c.toNat : Int) < 128 := by assumption
          refine bodyPost_ret (results_none rfl _ _ _) rfl ?_
          exact ⟨⟨_, rfl⟩, .inl ⟨_, ⟨k + 1, by omega, (upto_succ _ _).symm, .inr ⟨k, rfl, by rw [← Hcd.out]; omega⟩⟩, hJ3⟩⟩
        · go_roundw
          case rel => exact ⟨k + 1, by omega, by simp, by rw [upto_succ]; exact hJ3, hnx.trans hk3⟩
          case measure => simp [intOf]; omega
      · gi_wp2
        refine bodyPost_ret (results_none rfl _ _ _) rfl ?_
        exact ⟨⟨_, rfl⟩, .inr ⟨_, ⟨k + 1, by omega, (upto_succ _ _).symm⟩, hJx3⟩⟩
    · obtain rfl : k = bs.length := by omega
      gi_wp2
      go_end0
      exact ⟨⟨_, rfl⟩, .inl ⟨_, ⟨_, Nat.le_refl _, rfl, .inl rfl⟩, hJs⟩⟩

set_option maxRecDepth 100000 in
set_option maxHeartbeats 1000000 in
/-- .. at a slice without bytes: no round. -/
theorem groups1_nil_in {α : Type} (F : Fence) (n : Nat) (hF : F.fn 43) (hro : F.round = none) (l Bs : Nat) (A : Option Addr) (cap : Nat) (J : List α → World → Prop) (W : World) (hBs : W.cell? ⟨Bs, 0, none⟩ = some (.slice A 0 cap)) (h0 : J [] W) :
    CallsIn F n Try.prog 43 #[.func (.yield l) #[] #[], .pointer (some ⟨Bs, 0, none⟩)] W fun e W' => (∃ v, e = .returned v) ∧ J [] W' := by
  refine callsIn_of_wp Try.func43 rfl hF ?_ hro
  simp only [Try.ntmps43, List.size_toArray, List.length_cons, List.length_nil, Nat.reduceAdd, Nat.reduceSub, Array.replicate_succ, Array.replicate_zero, List.push_toArray, List.append_toArray, List.nil_append, List.cons_append]
  gi_wp2
  gi_loopw [7] (fun i wr => i = .int .i64 0 ∧ J [] wr) (fun _ _ => 0)
  case atStart => exact ⟨rfl, h0⟩
  case round =>
    obtain ⟨rfl, hJs⟩ := hrel
    gi_wp2
    go_end0
    exact ⟨⟨_, rfl⟩, hJs⟩

set_option maxHeartbeats 1000000 in
theorem groups_in (F : Fence) (n : Nat) (hF : F.fn 41) (hro : F.round = none) (a : Option Addr) (len cap : Nat) (w : World) :
    CallsIn F n Try.prog 41 #[.slice a len cap] w fun e w' => e = .returned (.func (.func 43) #[] #[.pointer (some ⟨w.heap.size, 0, none⟩)]) ∧ w' = w.alloc (.cells #[.slice a len cap] 23) := by
  refine callsIn_of_wp Try.func41 rfl hF ?_ hro
  simp only [Try.ntmps41, List.size_toArray, List.length_cons, List.length_nil, Nat.reduceAdd, Nat.reduceSub, Array.replicate_succ, Array.replicate_zero, List.push_toArray, List.append_toArray, List.nil_append, List.cons_append]
  gi_wp2
  go_ret
  exact ⟨rfl, rfl⟩

/-- The iterator's value: all bytes up to and with the first one below 128; or the first k of them. -/
theorem groups_stops {α : Type} (encs : α → Array Value) (f : Nat → α) (F : Fence) (n : Nat) (hF : F.fn 43) (hro : F.round = none) (hn : 1 ≤ n) (Bs n₀ : Nat) (A : Option Addr) (cap : Nat) (bs : List UInt8) (hreach : bs.length ≤ 281474976706560)
    (w : World) (hBs : Bs < w.heap.size) (hn₀ : n₀ ≤ w.heap.size) (hf : ∀ j, j < bs.length → encs (f j) = #[.int .i64 (j : Int), .int .u8 ((bs.getD j 0).toNat : Int)])
    (hc : w.cell? ⟨Bs, 0, none⟩ = some (.slice A bs.length cap)) (hR : Rd w n₀ A (bv bs)) :
    SeqStopsK F n Try.prog 43 #[.pointer (some ⟨Bs, 0, none⟩)] encs (Below n₀) (fun ys => ∃ k, k ≤ bs.length ∧ ys = upto f k ∧ (k = bs.length ∨ ∃ j, k = j + 1 ∧ (bs.getD j 0).toNat < 128))
      (fun pre => ∃ k, k ≤ bs.length ∧ pre = upto f k) bs.length w := fun l J Jx W hW _ _ hY h0 => by
  have hc' := (hW.cell (p := ⟨Bs, 0, none⟩) hBs).trans hc
  have hR' := hR.below hW hn₀
  rcases Nat.eq_zero_or_pos bs.length with h | h
  · rw [h] at hc'
    exact (groups1_nil_in F n hF hro l Bs A cap J W hc' h0).mono fun e W' ⟨he, hj⟩ => ⟨he, .inl ⟨_, ⟨0, by omega, rfl, .inl h.symm⟩, hj⟩⟩
  · obtain ⟨b, o, rfl, hb, _⟩ := hR'.byte h
    refine groups1_in encs f F n hF hro hn l Bs n₀ b o cap bs hreach hb hf J Jx hY W hc' (fun j hj => ?_) h0
    obtain ⟨b', o', e, _, hcc⟩ := hR'.byte hj
    cases e
    rw [hcc]
    simp [List.getD, hj]
end Go.Proofs.Ytdcnpkpibbefhaa
