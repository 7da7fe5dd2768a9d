/- varint.Get at every slice and place. -/
import Derived.Test.YtdcnpkpibbefhaaVarGet
namespace Go.Proofs.Ytdcnpkpibbefhaa
open Go.RowKit Go.Shelf
theorem below4 (w : World) (a b c d : Obj) : Below w.heap.size w ((((w.alloc a).alloc b).alloc c).alloc d) := by
  have h1 := World.size_alloc w a
  have h2 := World.size_alloc (w.alloc a) b
  have h3 := World.size_alloc ((w.alloc a).alloc b) c
  exact ((((Below.refl _ w).alloc (Nat.le_refl _) _).alloc (by omega) _).alloc (by omega) _).alloc (by omega) _
set_option maxHeartbeats 2000000 in
set_option maxRecDepth 20000 in
theorem get_bad (w : World) (A : Option Addr) (cap : Nat) (n : Nat) (at_ : Int) (hat : at_ < 0 ∨ (n : Int) < at_) :
    Calls Try.prog 30 #[.slice A n cap, .int .i64 at_] w fun e w' => e = .returned (res3 0 0 2) ∧ Below w.heap.size w w' := by
  by_cases h0 : at_ < 0
  · go_enter Try.func30, Try.ntmps30
    go_wp2_with fail
    refine bodyPost_ret (v := .tuple #[.int .u64 0, .int .i64 0, .int .i64 2]) (by simp [results, Try.f30, go_sem]) rfl ⟨rfl, ?_⟩
    exact below4 w _ _ _ _
  · have h1 : (n : Int) < at_ := by omega
    clear hat
    go_enter Try.func30, Try.ntmps30
    go_wp2_with fail
    refine bodyPost_ret (v := .tuple #[.int .u64 0, .int .i64 0, .int .i64 2]) (by simp [results, Try.f30, go_sem]) rfl ⟨rfl, ?_⟩
    exact below4 w _ _ _ _
theorem get_any (w : World) (B : Nat) (A : Option Addr) (cap : Nat) (l : List UInt8) (at_ : Int) (hR : Rd w B A (bv l)) (hB : B ≤ w.heap.size) (hl : l.length ≤ 281474976706560) (hlc : l.length ≤ cap) :
    Calls Try.prog 30 #[.slice A l.length cap, .int .i64 at_] w fun e w' => e = .returned (res3 (getR l at_).1 (getR l at_).2.1 (getR l at_).2.2) ∧ Below w.heap.size w w' := by
  by_cases hat : at_ < 0 ∨ (l.length : Int) < at_
  · have hg : getR l at_ = (0, 0, 2) := by unfold getR; rw [if_pos hat]
    rw [hg]
    exact get_bad w A cap l.length at_ hat
  · obtain ⟨a, rfl⟩ : ∃ a : Nat, at_ = (a : Int) := Int.eq_ofNat_of_zero_le (by omega)
    refine (callsIn_wide (n := 3)).1 ?_
    rcases Nat.lt_or_ge a l.length with hlt | hge
    · obtain ⟨b, o, rfl, hb, _⟩ := hR.byte hlt
      exact get_in1 Fence.wide 3 trivial trivial trivial rfl (by omega) w B b o cap l a hR hB hl hlc hlt
    · obtain rfl : a = l.length := by omega
      by_cases hca : cap = l.length
      · rw [hca]
        exact get_in2 Fence.wide 3 trivial trivial trivial rfl (by omega) w A l hl
      · exact get_in3 Fence.wide 3 trivial trivial trivial rfl (by omega) w A cap l hl hca
end Go.Proofs.Ytdcnpkpibbefhaa
