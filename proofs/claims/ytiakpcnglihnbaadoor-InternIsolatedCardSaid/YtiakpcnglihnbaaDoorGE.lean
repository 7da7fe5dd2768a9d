/- Lemmas and contracts of functions, several texts in one: VarM Var VarGetR0 VarIter VarGetM RoundStill VarReg. -/
import Derived.WalkKit
import Derived.Lib.BitFns
import Derived.Test.YtiakpcnglihnbaaDoorProg
import Derived.Test.YtiakpcnglihnbaaDoorGA
import Derived.Test.YtiakpcnglihnbaaDoorVarLen
import Derived.RangeFuncNested
import Derived.RangeFuncBound
import Derived.RangeFuncCalls
import Derived.RangeFuncLeaves
import Derived.RangeFuncBox
import Derived.Shelf.Abstract
import Derived.Shelf.RegionOpen
import Derived.OwnWalkIn
import Derived.TacticsInMore
import Derived.LoopNIn
import Derived.LoopIn
import Derived.StillTail
import Derived.StillTactics
import Derived.OrdersIn
import Derived.TacticsIn
/- Numbers with a variable length in plain Lean. No program in sight. -/
namespace Go.Proofs.YtiakpcnglihnbaaDoor

/-- The encoding, with as many bytes as k allows. -/
def putF : Nat → Nat → List UInt8
  | 0, _ => []
  | k + 1, n => if n < 128 then [UInt8.ofNat n] else UInt8.ofNat (n % 128 + 128) :: putF k (n / 128)
def put (n : Nat) : List UInt8 := putF 10 n
theorem putF_more (k : Nat) : ∀ m n, n < 128 ^ k → k ≤ m → 0 < k → putF k n = putF m n := by
  induction k with
  | zero => intro m n _ _ h; omega
  | succ k ih =>
    intro m n hn hm _
    obtain ⟨m, rfl⟩ : ∃ m', m = m' + 1 := ⟨m - 1, by omega⟩
    simp only [putF]
    by_cases h : n < 128
    · rw [if_pos h, if_pos h]
    · rw [if_neg h, if_neg h]
      congr 1
      have hk : 0 < k := by
        rcases k with _ | k
        · simp at hn; omega
        · omega
      exact ih m (n / 128) (by rw [Nat.pow_succ] at hn; omega) (by omega) hk
theorem put_small (n : Nat) (h : n < 128) : put n = [UInt8.ofNat n] := by unfold put; simp only [putF]; rw [if_pos h]
theorem put_step (n : Nat) (h : 128 ≤ n) (hn : n < 18446744073709551616) : put n = UInt8.ofNat (n % 128 + 128) :: put (n / 128) := by
  have e : putF 9 (n / 128) = put (n / 128) := putF_more 9 10 (n / 128) (by omega) (by omega) (by omega)
  show putF 10 n = _
  rw [← e]
  simp only [putF]
  rw [if_neg (by omega)]
theorem putF_length (k : Nat) : ∀ n, n < 128 ^ k → 0 < k → 1 ≤ (putF k n).length ∧ (putF k n).length ≤ k := by
  induction k with
  | zero => intro n _ h; omega
  | succ k ih =>
    intro n hn _
    simp only [putF]
    split
    · simp
    · have hk : 0 < k := by
        rcases k with _ | k
        · simp at hn; omega
        · omega
      have := ih (n / 128) (by rw [Nat.pow_succ] at hn; omega) hk
      simp; omega
theorem put_length (n : Nat) (hn : n < 18446744073709551616) : 1 ≤ (put n).length ∧ (put n).length ≤ 10 := putF_length 10 n (by omega) (by omega)

/-- The length of the encoding is what Size computes. -/
def sizeN (n : Nat) : Nat := (Lib.bitLen (n ||| 1) + 6) / 7
theorem or_one_half (n : Nat) : (n ||| 1) / 128 = n / 128 := by
  have h := Nat.shiftRight_or_distrib (a := n) (b := 1) (i := 7)
  simpa [Nat.shiftRight_eq_div_pow] using h
theorem or_one_lt (n k : Nat) (hn : n < 2 ^ k) (hk : 1 ≤ k) : n ||| 1 < 2 ^ k := Nat.or_lt_two_pow hn (by
  have : 2 ^ 1 ≤ 2 ^ k := Nat.pow_le_pow_right (by omega) hk
  omega)
theorem or_one_ge (n : Nat) : n ≤ n ||| 1 ∧ 1 ≤ n ||| 1 := ⟨Nat.left_le_or, Nat.right_le_or⟩
theorem bitLen_pos (n : Nat) (h : 1 ≤ n) (hn : n < 2 ^ 64) : 1 ≤ Lib.bitLen n := by
  rw [Lib.bitLen_half n (by omega) hn]; omega
/-- Bits of numbers above 127: seven more than of their 128th. -/
theorem bitLen_128 (n : Nat) (h : 128 ≤ n) (hn : n < 2 ^ 64) : Lib.bitLen n = 7 + Lib.bitLen (n / 128) := Lib.bitLen_shift 7 n h hn
theorem bitLen_or (n : Nat) (h : 2 ≤ n) (hn : n < 2 ^ 64) : Lib.bitLen (n ||| 1) = Lib.bitLen n := by
  have h2 : (n ||| 1) / 2 = n / 2 := by
    have h := Nat.shiftRight_or_distrib (a := n) (b := 1) (i := 1)
    simpa [Nat.shiftRight_eq_div_pow] using h
  rw [Lib.bitLen_half (n ||| 1) (by have := or_one_ge n; omega) (or_one_lt n 64 hn (by omega)), Lib.bitLen_half n (by omega) hn, h2]
theorem sizeN_small (n : Nat) (h : n < 128) : sizeN n = 1 := by
  unfold sizeN
  have h1 := Lib.bitLen_le (n ||| 1) 7 (by omega) (or_one_lt n 7 (by omega) (by omega))
  have h2 := bitLen_pos (n ||| 1) (or_one_ge n).2 (or_one_lt n 64 (by omega) (by omega))
  omega
theorem sizeN_step (n : Nat) (h : 128 ≤ n) (hn : n < 18446744073709551616) : sizeN n = 1 + sizeN (n / 128) := by
  unfold sizeN
  rw [bitLen_or n (by omega) (by omega), bitLen_128 n h (by omega)]
  by_cases h2 : 2 ≤ n / 128
  · rw [bitLen_or (n / 128) h2 (by omega)]; omega
  · have : n / 128 = 1 := by omega
    rw [this]
    have e1 : Lib.bitLen 1 = 1 := by decide
    have e2 : Lib.bitLen (1 ||| 1) = 1 := by decide
    rw [e1, e2]
theorem sizeN_put (k : Nat) : ∀ n, n < 128 ^ k → n < 18446744073709551616 → sizeN n = (put n).length := by
  induction k with
  | zero => intro n h _; have : n = 0 := by simpa using h
            subst this; decide
  | succ k ih =>
    intro n h hn
    by_cases hs : n < 128
    · rw [sizeN_small n hs, put_small n hs]; rfl
    · rw [sizeN_step n (by omega) hn, put_step n (by omega) hn, ih (n / 128) (by rw [Nat.pow_succ] at h; omega) (by omega), List.length_cons]
      omega
theorem size_put (n : Nat) (hn : n < 18446744073709551616) : sizeN n = (put n).length := sizeN_put 10 n (by omega) hn

/-- Decoding: the number so far, the count of bytes so far; (number, count, error). -/
def dec : Nat → Nat → List UInt8 → Nat × Nat × Nat
  | _, _, [] => (0, 0, 4)
  | k, n, c :: l =>
    if k = 9 ∧ 1 < c.toNat then (0, 0, 6)
    else if c.toNat = 0 ∧ 0 < k then (0, 0, 5)
    else if c.toNat < 128 then (n + c.toNat * 128 ^ k, k + 1, 0)
    else dec (k + 1) (n + (c.toNat % 128) * 128 ^ k) l
/-- What Get answers. -/
def getR (l : List UInt8) (at_ : Int) : Nat × Int × Nat :=
  if at_ < 0 ∨ (l.length : Int) < at_ then (0, 0, 2)
  else let r := dec 0 0 (l.drop at_.toNat); if r.2.2 = 0 then (r.1, at_ + r.2.1, 0) else (0, 0, r.2.2)
end Go.Proofs.YtiakpcnglihnbaaDoor
/- The walks of varint.Size, varint.Put and the reference's Put. -/
namespace Go.Proofs.YtiakpcnglihnbaaDoor
open Go.RowKit
theorem u64_or1 (n : Nat) (h : n < 18446744073709551616) : bits .or .u64 (n : Int) 1 = ((n ||| 1 : Nat) : Int) := u64_or_nat n 1 h (by omega)
set_option maxHeartbeats 1000000 in
theorem size_any (n : Nat) (w : World) (h : n < 18446744073709551616) :
    Calls Tryd.prog 82 #[.int .u64 (n : Int)] w fun e w' => e = .returned (.int .i64 (sizeN n : Nat)) ∧ w = w' := by
  have hor := u64_or1 n h
  obtain ⟨m, hm⟩ : ∃ m, m = n ||| 1 := ⟨_, rfl⟩
  have hml : m < 2 ^ 64 := by rw [hm]; exact or_one_lt n 64 h (by omega)
  rw [← hm] at hor
  have hle := Lib.bitLen_le m 64 (by omega) hml
  have hlen := fun w => len64_any (m : Int) w (by omega) (by omega)
  simp only [Int.toNat_natCast] at hlen
  have Hlen := Lib.hid hlen
  have Hm := Lib.hid hm
  clear hlen hm h hml
  obtain ⟨b, hb⟩ : ∃ b, b = Lib.bitLen m := ⟨_, rfl⟩
  rw [← hb] at hle
  have Hb := Lib.hid hb
  clear hb
  go_enter Tryd.func82, Tryd.ntmps82
  go_wp2_with (go_at_call 81; refine (Hlen.out _).mono ?_; rintro e w1 ⟨rfl, rfl⟩; rw [← Hb.out])
  go_ret
  refine ⟨ret_eq (int_eq ?_), rfl⟩
  unfold sizeN
  rw [← Hm.out, ← Hb.out]
  omega
theorem or128 (m : Nat) : bits .or .u8 ((m : Int) % (256 : Int)) 128 = (((UInt8.ofNat (m % 128 + 128)).toNat : Nat) : Int) := by
  rw [show (m : Int) % (256 : Int) = ((m % 256 : Nat) : Int) by omega, show (128 : Int) = ((128 : Nat) : Int) by rfl, u8_or_nat _ _ (by omega) (by omega), UInt8.toNat_ofNat']
  congr 1
  have h : ∀ j : Fin 256, j.val ||| 128 = (j.val % 128 + 128) % 2 ^ 8 := by decide +kernel
  have := h ⟨m % 256, by omega⟩
  simp only at this
  rw [this]
  omega
theorem u8info_v : (Tryd.prog.info? 5).map (fun i => (i.zero, i.size, i.bytes)) = some (some (.int .u8 0), 1, 1) := by kernel_rfl
theorem mk_cap (c : Nat) (h : c ≤ 281474976710656) (w : World) :
    (Instr.makeSlice 41 (.int .i64 0) (.int .i64 (c : Int))).run Tryd.prog w = .ok (.slice (some ⟨w.heap.size, 0, none⟩) 0 c) (w.alloc (.cells (zeros c).toArray 5)) := by
  obtain ⟨i, hi, hz, hs, hb⟩ := info_parts u8info_v
  exact run_mk 41 5 i Tryd.underlying41 hi hz hs hb 0 c (by omega) h w
theorem one_byte (n : Int) : ∀ u ∈ [Value.int .u8 n], u.oneCell' = true := by
  intro u hu
  obtain rfl : u = .int .u8 n := by simpa using hu
  rfl
theorem bv_small (x : Nat) (h : x < 256) : bv [UInt8.ofNat x] = [.int .u8 (x : Int)] := by
  have e : (UInt8.ofNat x).toNat = x := by rw [UInt8.toNat_ofNat']; omega
  simp only [bv, List.map_cons, List.map_nil, e]
set_option maxHeartbeats 1000000 in
set_option maxRecDepth 20000 in
theorem put_any (n : Nat) (w : World) (h : n < 18446744073709551616) :
    Calls Tryd.prog 57 #[.int .u64 (n : Int)] w fun e w' => ∃ A c, e = .returned (.slice A (put n).length c) ∧ w'.ownsRow w.heap.size 5 1 (.slice A (put n).length c) (put n).length (bv (put n)) ∧ Below w.heap.size w w' := by
  have hn := Lib.hid h
  have hsz := size_put n h
  have hpl := put_length n h
  obtain ⟨c, hc⟩ : ∃ c, c = (put n).length := ⟨_, rfl⟩
  have hmk := mk_cap c (by omega)
  have hsize := fun w => size_any n w h
  rw [hsz, ← hc] at hsize
  have Hsize := Lib.hid hsize
  clear hsize hsz h
  obtain ⟨i0, hi0, hz0, hs0, hby0⟩ := info_parts u8info_v
  have hc10 : c ≤ 10 := by omega
  have Hc := Lib.hid hc
  clear hc hpl
  go_enter Tryd.func57, Tryd.ntmps57
  go_wp2_with (go_at_call 82; refine (Hsize.out _).mono ?_; rintro e w1 ⟨rfl, rfl⟩)
  have hown0 : (w.alloc (.cells (zeros c).toArray 5)).ownsRow w.heap.size 5 1 (.slice (some ⟨w.heap.size, 0, none⟩) 0 c) 0 (bv []) :=
    own_of_blk (Blk.new _ _ _) (Nat.le_refl _) (zeros_length _) (by omega) (by unfold maxLen; omega) rfl
  have hb0 : Below w.heap.size w (w.alloc (.cells (zeros c).toArray 5)) := (Below.refl _ _).alloc (Nat.le_refl _) _
  generalize w.alloc (.cells (zeros c).toArray 5) = W0 at hown0 hb0 ⊢
  clear hmk
  go_loopw [0, 3] (fun m v wr => ∃ (pre : List UInt8) (x : Nat), put n = pre ++ put x ∧ Hid (x < 18446744073709551616) ∧ m = .int .u64 (x : Int) ∧ v = .slice (some ⟨w.heap.size, 0, none⟩) pre.length c ∧
      wr.ownsRow w.heap.size 5 1 (.slice (some ⟨w.heap.size, 0, none⟩) pre.length c) pre.length (bv pre) ∧ Below w.heap.size w wr) (fun m _ _ => (intOf m).toNat)
  case atStart => exact ⟨[], n, rfl, hn, rfl, rfl, hown0, hb0⟩
  case round =>
    clear hown0 hb0
    obtain ⟨pre, x, hpre, hx, rfl, rfl, hown, hb⟩ := hrel
    have hlen : pre.length + 1 ≤ c := by
      have h1 := (put_length x hx.out).1
      rw [Hc.out, hpre, List.length_append]; omega
    have Hpre := Lib.hid hpre
    clear hpre
    by_cases h128 : 128 ≤ x
    · have hor := or128 x
      go_wp2_with (at_builtin; ((with_reducible refine wpList_append_fits (o := ⟨some 16, _, _, _, _, _⟩) _ ?_ (.tmp 11) (.tmp 15) 41 ?_ w.heap.size 5 i0 1 Tryd.underlying41 hi0 hs0 w.heap.size pre.length c (bv pre) ?_ (hown.alloc _) ⟨wr.heap.size, 0, none⟩ 1 1 [.int .u8 (((UInt8.ofNat (x % 128 + 128)).toNat : Nat) : Int)] ?_ ?_ ?_ ?_ ?_ ?_); rfl; rfl; rfl; rfl; rfl; exact (cell_one_new _ _ _); exact (one_byte _); omega; intro w4 hown4 hgr4))
      have hs : put x = UInt8.ofNat (x % 128 + 128) :: put (x / 128) := put_step x h128 hx.out
      have hb4 := (hb.alloc hb.size (.cells #[.int .u8 (((UInt8.ofNat (x % 128 + 128)).toNat : Nat) : Int)] 5)).grown hgr4 (Nat.le_trans hb.size (by simp)) (fun g hg => by simp at hg; omega)
      refine ⟨⟨pre ++ [UInt8.ofNat (x % 128 + 128)], x / 128, by rw [Hpre.out, hs]; simp, (show x / 128 < 18446744073709551616 by have := hx.out; omega), int_eq (by omega), by simp, ?_, hb4⟩, by simp [intOf]; omega⟩
      rw [bv_append, List.length_append]
      exact hown4
    · go_wp2_with (at_builtin; ((with_reducible refine wpList_append_fits (o := ⟨some 21, _, _, _, _, _⟩) _ ?_ (.tmp 17) (.tmp 20) 41 ?_ w.heap.size 5 i0 1 Tryd.underlying41 hi0 hs0 w.heap.size pre.length c (bv pre) ?_ (hown.alloc _) ⟨wr.heap.size, 0, none⟩ 1 1 [.int .u8 (x : Int)] ?_ ?_ ?_ ?_ ?_ ?_); rfl; rfl; rfl; rfl; rfl; exact (cell_one_new _ _ _); exact (one_byte _); omega; intro w4 hown4 hgr4))
      go_ret
      have hs : put x = [UInt8.ofNat x] := put_small x (by omega)
      have hp : put n = pre ++ [UInt8.ofNat x] := by rw [Hpre.out, hs]
      have hpl : (put n).length = pre.length + 1 := by rw [hp]; simp
      refine ⟨some ⟨w.heap.size, 0, none⟩, c, (by rw [hpl]; rfl), ?_, (hb.alloc hb.size _).grown hgr4 (Nat.le_trans hb.size (by simp)) (fun g hg => by simp at hg; omega)⟩
      rw [hpl, hp, bv_append]
      have hx1 := bv_small x (by omega)
      rw [hx1]
      exact hown4
theorem add128 (x : Nat) : ((x : Int) % (128 : Int) + (128 : Int)) = (((UInt8.ofNat (x % 128 + 128)).toNat : Nat) : Int) := by
  rw [UInt8.toNat_ofNat']; omega
set_option maxHeartbeats 1000000 in
set_option maxRecDepth 20000 in
theorem rput_any (k : Nat) : ∀ (n : Nat) (w : World), n < 128 ^ k → Hid (n < 18446744073709551616) →
    Calls Tryd.prog 59 #[.int .u64 (n : Int)] w fun e w' => ∃ A c, e = .returned (.slice A (put n).length c) ∧ w'.ownsRow w.heap.size 5 1 (.slice A (put n).length c) (put n).length (bv (put n)) ∧ Below w.heap.size w w' := by
  induction k with
  | zero =>
    intro n w hk hn
    obtain rfl : n = 0 := by simpa using hk
    have hp : put 0 = [0] := rfl
    rw [hp]
    clear hk hn hp
    go_enter Tryd.func59, Tryd.ntmps59
    go_wp2_with fail
    go_ret
    exact ⟨_, _, rfl, World.ownsRow_lit w _ 1 (Nat.le_refl _) (by unfold maxLen; omega) rfl, (Below.refl _ _).alloc (Nat.le_refl _) _⟩
  | succ k ih =>
    intro n w hk hn
    by_cases h : n < 128
    · have hp := put_small n h
      rw [hp]
      have hb := bv_small n (by omega)
      rw [hb]
      clear hp hb hk
      go_enter Tryd.func59, Tryd.ntmps59
      go_wp2_with fail
      go_ret
      exact ⟨_, _, rfl, World.ownsRow_lit w _ 1 (Nat.le_refl _) (by unfold maxLen; omega) rfl, (Below.refl _ _).alloc (Nat.le_refl _) _⟩
    · have hp := put_step n (by omega) hn.out
      have hr := fun w => ih (n / 128) w (by rw [Nat.pow_succ] at hk; omega) (show n / 128 < 18446744073709551616 by have := hn.out; omega)
      rw [show ((n / 128 : Nat) : Int) = (n : Int) / (128 : Int) by omega] at hr
      have hpl := (put_length (n / 128) (by have := hn.out; omega)).2
      have hw : IntKind.u64.wrap ((n : Int) / (128 : Int)) = (n : Int) / (128 : Int) := by rw [IntKind.wrap_u64]; have := hn.out; omega
      have Hp := Lib.hid hp
      have Hr := Lib.hid hr
      have Hih := Lib.hid ih
      clear hp hr hk ih
      go_enter Tryd.func59, Tryd.ntmps59
      go_wp2_with fail
      ((with_reducible refine (Hr.out _).mono ?_); rintro e w1 ⟨A1, c1, rfl, hown1, hb1⟩)
      have hown0 : (w.alloc (.cells #[.int .u8 ((n : Int) % (128 : Int) + (128 : Int))] 5)).ownsRow w.heap.size 5 1 (.slice (some ⟨w.heap.size, 0, none⟩) 1 1) 1 [.int .u8 ((n : Int) % (128 : Int) + (128 : Int))] :=
        World.ownsRow_lit w _ 1 (Nat.le_refl _) (by unfold maxLen; omega) rfl
      have hg1 : (w.alloc (.cells #[.int .u8 ((n : Int) % (128 : Int) + (128 : Int))] 5)).grownBy w1 none := ⟨hb1.os, hb1.tape, hb1.output, hb1.size, fun k hk _ => hb1.block k hk⟩
      have hown2 := hown0.kept hg1 (by simp [Value.ownBlock])
      have hsz : w.heap.size + 1 ≤ w1.heap.size := by have := hb1.size; simpa using this
      have hRd := Rd.of_own hown1
      have hb2 : Below w.heap.size w w1 := ((Below.refl _ _).alloc (Nat.le_refl _) _).trans (hb1.mono (by simp))
      clear hown0 hg1 hown1
      go_wp2_with (at_builtin; ((with_reducible refine wpList_app (o := ⟨some 16, _, _, _, _, _⟩) _ ?_ (.tmp 12) (.tmp 15) 41 ?_ w.heap.size 5 (.int .u8 0) 1 Tryd.underlying41 u8info_v ?_ (.slice (some ⟨w.heap.size, 0, none⟩) 1 1) 1 [.int .u8 ((n : Int) % (128 : Int) + (128 : Int))] ?_ hown2 w1.heap.size A1 (put (n / 128)).length c1 (bv (put (n / 128))) ?_ hRd (bv_length _) bv_one ?_ ?_ ?_ ?_); rfl; rfl; rfl; rfl; rfl; (unfold maxLen; omega); omega; omega; intro A3 c3 w3 hown3 hg3))
      go_ret
      have hpl2 : (put n).length = 1 + (put (n / 128)).length := by rw [Hp.out]; simp; omega
      have hbv : bv (put n) = [.int .u8 ((n : Int) % (128 : Int) + (128 : Int))] ++ bv (put (n / 128)) := by
        rw [Hp.out, add128]; rfl
      refine ⟨A3, c3, (by rw [hpl2]; rfl), ?_, hb2.grown hg3 (by omega) (fun g hg => by simp [Value.ownBlock] at hg; omega)⟩
      rw [hpl2, hbv]
      exact hown3
theorem drop_cons {α : Type} (l : List α) (k : Nat) (h : k < l.length) : l.drop k = l[k] :: l.drop (k + 1) := by
  rw [List.drop_eq_getElem_cons h]
theorem pow128 (k : Nat) (h : k ≤ 9) : 128 ^ k ≤ 9223372036854775808 := by
  have : 128 ^ k ≤ 128 ^ 9 := Nat.pow_le_pow_right (by omega) h
  omega
def res3 (n : Nat) (to : Int) (e : Nat) : Value := .tuple #[.int .u64 (n : Int), .int .i64 to, .int .i64 (e : Int)]
end Go.Proofs.YtiakpcnglihnbaaDoor
/- The contract of varint.groups: the iterator over the bytes of an encoding. After the kit's worked text for slices.All, turned to this iterator. -/
namespace Go.Proofs.YtiakpcnglihnbaaDoor
open Go.RowKit Go.Shelf
attribute [local go_sem] Oper.semAt_some
/-- What has come when k rounds are over. -/
def upto {α : Type} (f : Nat → α) (k : Nat) : List α := (List.range k).map f
theorem upto_succ {α : Type} (f : Nat → α) (k : Nat) : upto f (k + 1) = upto f k ++ [f k] := by simp [upto, List.range_succ]
theorem upto_length {α : Type} (f : Nat → α) (k : Nat) : (upto f k).length = k := by simp [upto]

set_option maxRecDepth 100000 in
set_option maxHeartbeats 4000000 in
theorem groups1_in {α : Type} (encs : α → Array Value) (f : Nat → α) (F : Fence) (n : Nat) (hF : F.fn 95) (hro : F.round = none) (hn : 1 ≤ n) (l Bs n₀ b off cap : Nat) (bs : List UInt8) (hreach : bs.length ≤ 281474976706560) (hb : b < n₀)
    (hf : ∀ j, j < bs.length → encs (f j) = #[.int .i64 (j : Int), .int .u8 ((bs.getD j 0).toNat : Int)]) (J Jx : List α → World → Prop)
    (hY : ∀ pre x W, J pre W → pre.length < bs.length → YieldAt F (n - 1) Tryd.prog l (encs x) W fun e W' =>
      (e = .returned (.bool true) ∧ J (pre ++ [x]) W' ∧ Below n₀ W W') ∨ (e = .returned (.bool false) ∧ Jx (pre ++ [x]) W'))
    (W : World) (hBs : W.cell? ⟨Bs, 0, none⟩ = some (.slice (some ⟨b, off, none⟩) bs.length cap)) (hc : ∀ j, j < bs.length → W.cell? ⟨b, off + j, none⟩ = some (.int .u8 ((bs.getD j 0).toNat : Int))) (h0 : J [] W) :
    CallsIn F n Tryd.prog 95 #[.func (.yield l) #[] #[], .pointer (some ⟨Bs, 0, none⟩)] W fun e W' => (∃ v, e = .returned v) ∧
      ((∃ ys, (∃ k, k ≤ bs.length ∧ ys = upto f k ∧ (k = bs.length ∨ ∃ j, k = j + 1 ∧ (bs.getD j 0).toNat < 128)) ∧ J ys W') ∨ (∃ pre, (∃ k, k ≤ bs.length ∧ pre = upto f k) ∧ Jx pre W')) := by
  refine callsIn_of_wp Tryd.func95 rfl hF ?_ hro
  simp only [Tryd.ntmps95, List.size_toArray, List.length_cons, List.length_nil, Nat.reduceAdd, Nat.reduceSub, Array.replicate_succ, Array.replicate_zero, List.push_toArray, List.append_toArray, List.nil_append, List.cons_append]
  gi_wp2
  gi_loopw [7] (fun i wr => ∃ k : Nat, k ≤ bs.length ∧ i = .int .i64 k ∧ J (upto f k) wr ∧ Below n₀ W wr)
    (fun i _ => bs.length - (intOf i).toNat)
  case atStart => exact ⟨0, Nat.zero_le _, rfl, h0, Below.refl _ _⟩
  case round =>
    obtain ⟨k, hk, rfl, hJs, hnx⟩ := hrel
    have hcx : k < bs.length → wr.cell? ⟨b, off + k, none⟩ = some (.int .u8 ((bs.getD k 0).toNat : Int)) := fun h => (hnx.cell (p := ⟨b, off + k, none⟩) hb).trans (hc k h)
    by_cases hlt : k < bs.length
    · obtain ⟨fn, tmps, assign, body, hy, hR⟩ := hY _ (f k) wr hJs (by rw [upto_length]; exact hlt)
      rw [hf k hlt] at hy
      have hcx' := hcx hlt
      obtain ⟨c, hcd⟩ : ∃ c, c = bs.getD k 0 := ⟨_, rfl⟩
      rw [← hcd] at hy hcx'
      have Hcd := Lib.hid hcd
      have Hf := Lib.hid hf
      have Hc := Lib.hid hc
      clear hcd hcx hf hc
      gi_wp2
      refine hR.mono ?_
      rintro e W3 (⟨rfl, hJ3, hk3⟩ | ⟨rfl, hJx3⟩)
      · gi_wp2
        · have hc128 : (c.toNat : Int) < 128 := by assumption
          refine bodyPost_ret (results_none rfl _ _ _) rfl ?_
          exact ⟨⟨_, rfl⟩, .inl ⟨_, ⟨k + 1, by omega, (upto_succ _ _).symm, .inr ⟨k, rfl, by rw [← Hcd.out]; omega⟩⟩, hJ3⟩⟩
        · go_roundw
          case rel => exact ⟨k + 1, by omega, by simp, by rw [upto_succ]; exact hJ3, hnx.trans hk3⟩
          case measure => simp [intOf]; omega
      · gi_wp2
        refine bodyPost_ret (results_none rfl _ _ _) rfl ?_
        exact ⟨⟨_, rfl⟩, .inr ⟨_, ⟨k + 1, by omega, (upto_succ _ _).symm⟩, hJx3⟩⟩
    · obtain rfl : k = bs.length := by omega
      gi_wp2
      go_end0
      exact ⟨⟨_, rfl⟩, .inl ⟨_, ⟨_, Nat.le_refl _, rfl, .inl rfl⟩, hJs⟩⟩

set_option maxRecDepth 100000 in
set_option maxHeartbeats 1000000 in
/-- .. at a slice without bytes: no round. -/
theorem groups1_nil_in {α : Type} (F : Fence) (n : Nat) (hF : F.fn 95) (hro : F.round = none) (l Bs : Nat) (A : Option Addr) (cap : Nat) (J : List α → World → Prop) (W : World) (hBs : W.cell? ⟨Bs, 0, none⟩ = some (.slice A 0 cap)) (h0 : J [] W) :
    CallsIn F n Tryd.prog 95 #[.func (.yield l) #[] #[], .pointer (some ⟨Bs, 0, none⟩)] W fun e W' => (∃ v, e = .returned v) ∧ J [] W' := by
  refine callsIn_of_wp Tryd.func95 rfl hF ?_ hro
  simp only [Tryd.ntmps95, List.size_toArray, List.length_cons, List.length_nil, Nat.reduceAdd, Nat.reduceSub, Array.replicate_succ, Array.replicate_zero, List.push_toArray, List.append_toArray, List.nil_append, List.cons_append]
  gi_wp2
  gi_loopw [7] (fun i wr => i = .int .i64 0 ∧ J [] wr) (fun _ _ => 0)
  case atStart => exact ⟨rfl, h0⟩
  case round =>
    obtain ⟨rfl, hJs⟩ := hrel
    gi_wp2
    go_end0
    exact ⟨⟨_, rfl⟩, hJs⟩

set_option maxHeartbeats 1000000 in
theorem groups_in (F : Fence) (n : Nat) (hF : F.fn 83) (hro : F.round = none) (a : Option Addr) (len cap : Nat) (w : World) :
    CallsIn F n Tryd.prog 83 #[.slice a len cap] w fun e w' => e = .returned (.func (.func 95) #[] #[.pointer (some ⟨w.heap.size, 0, none⟩)]) ∧ w' = w.alloc (.cells #[.slice a len cap] 41) := by
  refine callsIn_of_wp Tryd.func83 rfl hF ?_ hro
  simp only [Tryd.ntmps83, List.size_toArray, List.length_cons, List.length_nil, Nat.reduceAdd, Nat.reduceSub, Array.replicate_succ, Array.replicate_zero, List.push_toArray, List.append_toArray, List.nil_append, List.cons_append]
  gi_wp2
  go_ret
  exact ⟨rfl, rfl⟩

/-- The iterator's value: all bytes up to and with the first one below 128; or the first k of them. -/
theorem groups_stops {α : Type} (encs : α → Array Value) (f : Nat → α) (F : Fence) (n : Nat) (hF : F.fn 95) (hro : F.round = none) (hn : 1 ≤ n) (Bs n₀ : Nat) (A : Option Addr) (cap : Nat) (bs : List UInt8) (hreach : bs.length ≤ 281474976706560)
    (w : World) (hBs : Bs < w.heap.size) (hn₀ : n₀ ≤ w.heap.size) (hf : ∀ j, j < bs.length → encs (f j) = #[.int .i64 (j : Int), .int .u8 ((bs.getD j 0).toNat : Int)])
    (hc : w.cell? ⟨Bs, 0, none⟩ = some (.slice A bs.length cap)) (hR : Rd w n₀ A (bv bs)) :
    SeqStopsK F n Tryd.prog 95 #[.pointer (some ⟨Bs, 0, none⟩)] encs (Below n₀) (fun ys => ∃ k, k ≤ bs.length ∧ ys = upto f k ∧ (k = bs.length ∨ ∃ j, k = j + 1 ∧ (bs.getD j 0).toNat < 128))
      (fun pre => ∃ k, k ≤ bs.length ∧ pre = upto f k) bs.length w := fun l J Jx W hW _ _ hY h0 => by
  have hc' := (hW.cell (p := ⟨Bs, 0, none⟩) hBs).trans hc
  have hR' := hR.below hW hn₀
  rcases Nat.eq_zero_or_pos bs.length with h | h
  · rw [h] at hc'
    exact (groups1_nil_in F n hF hro l Bs A cap J W hc' h0).mono fun e W' ⟨he, hj⟩ => ⟨he, .inl ⟨_, ⟨0, by omega, rfl, .inl h.symm⟩, hj⟩⟩
  · obtain ⟨b, o, rfl, hb, _⟩ := hR'.byte h
    refine groups1_in encs f F n hF hro hn l Bs n₀ b o cap bs hreach hb hf J Jx hY W hc' (fun j hj => ?_) h0
    obtain ⟨b', o', e, _, hcc⟩ := hR'.byte hj
    cases e
    rw [hcc]
    simp [List.getD, hj]
/-- One round's key and byte. -/
structure Ent where
  k : Nat
  c : UInt8
  hk : k < 281474976710656
def ent (bs : List UInt8) (j : Nat) : Ent := ⟨j % 281474976710656, bs.getD j 0, Nat.mod_lt _ (by decide)⟩
def Ent.bad9 (p : Ent) : Prop := p.k = 9 ∧ 1 < p.c.toNat
def Ent.bad0 (p : Ent) : Prop := p.c.toNat = 0 ∧ 0 < p.k
def Ent.goes (p : Ent) : Prop := ¬ p.bad9 ∧ ¬ p.bad0 ∧ 128 ≤ p.c.toNat
def shv (k c : Nat) : Int := (((c % 128) * 2 ^ min (7 * k) 64 % 18446744073709551616 : Nat) : Int)
def accS (n : Int) (p : Ent) : Int := bits .or .u64 n (shv p.k p.c.toNat)
def accG (pre : List Ent) : Int := pre.foldl accS 0
theorem accG_snoc (pre : List Ent) (p : Ent) : accG (pre ++ [p]) = accS (accG pre) p := by simp [accG]
set_option maxRecDepth 50000 in
theorem and127 (c : UInt8) : bits .and .u8 (c.toNat : Int) 127 = ((c.toNat % 128 : Nat) : Int) := by
  have h := c.toNat_lt
  have : ∀ n : Fin 256, bits .and .u8 ((n.val : Nat) : Int) 127 = ((n.val % 128 : Nat) : Int) := by decide
  exact this ⟨c.toNat, by omega⟩
theorem shl_shv (k c : Nat) : IntKind.u64.wrap (((c % 128 : Nat) : Int) * 2 ^ min (7 * (k : Int)).toNat 64) = shv k c := by
  have e : (7 * (k : Int)).toNat = 7 * k := by omega
  rw [e]
  unfold shv
  have e2 : (((c % 128 : Nat) : Int) * 2 ^ min (7 * k) 64) = (((c % 128) * 2 ^ min (7 * k) 64 : Nat) : Int) := by simp
  rw [e2]
  generalize (c % 128) * 2 ^ min (7 * k) 64 = m
  simp [IntKind.wrap, IntKind.bits, IntKind.signed]
theorem u64_m (c : Nat) : IntKind.u64.wrap ((c % 128 : Nat) : Int) = ((c % 128 : Nat) : Int) := by
  have : c % 128 < 128 := Nat.mod_lt _ (by omega)
  generalize c % 128 = m at *
  simp [IntKind.wrap, IntKind.bits, IntKind.signed]
  omega
/-- The outcome of the last round. -/
def Ends (a : Nat) (n : Int) (p : Ent) (x y z : Int) : Prop :=
  (p.bad9 ∧ x = 0 ∧ y = 0 ∧ z = 6) ∨ (¬ p.bad9 ∧ p.bad0 ∧ x = 0 ∧ y = 0 ∧ z = 5) ∨ (¬ p.bad9 ∧ ¬ p.bad0 ∧ p.c.toNat < 128 ∧ x = accS n p ∧ y = a + p.k + 1 ∧ z = 0)
theorem or_add (n m k : Nat) (hn : n < 2 ^ k) : n ||| m * 2 ^ k = n + m * 2 ^ k := by
  have h := Nat.shiftLeft_add_eq_or_of_lt hn m
  rw [Nat.shiftLeft_eq] at h
  rw [Nat.or_comm, ← h, Nat.add_comm]
theorem p128 (k : Nat) : 128 ^ k = 2 ^ (7 * k) := by rw [Nat.pow_mul]
theorem accS_step (n k : Nat) (c : UInt8) (hk : k < 281474976710656) (h9 : k ≤ 9) (hc : k = 9 → c.toNat ≤ 1) (hn : n < 128 ^ k) :
    accS (n : Int) ⟨k, c, hk⟩ = ((n + (c.toNat % 128) * 128 ^ k : Nat) : Int) := by
  have hp := p128 k
  have hm : min (7 * k) 64 = 7 * k := by omega
  have hb : (c.toNat % 128) * 128 ^ k < 18446744073709551616 := by
    rcases Nat.lt_or_ge k 9 with h | h
    · have h1 : 128 ^ k ≤ 128 ^ 8 := Nat.pow_le_pow_right (by omega) (by omega)
      have h2 : c.toNat % 128 < 128 := Nat.mod_lt _ (by omega)
      calc (c.toNat % 128) * 128 ^ k ≤ 128 * 128 ^ 8 := Nat.mul_le_mul (by omega) h1
        _ < 18446744073709551616 := by decide
    · have : k = 9 := by omega
      have h1 := hc this
      subst this
      have : c.toNat % 128 ≤ 1 := by omega
      calc (c.toNat % 128) * 128 ^ 9 ≤ 1 * 128 ^ 9 := Nat.mul_le_mul this (Nat.le_refl _)
        _ < 18446744073709551616 := by decide
  have hn2 : n < 18446744073709551616 := by
    have h1 : 128 ^ k ≤ 128 ^ 9 := Nat.pow_le_pow_right (by omega) h9
    have h2 : (128 : Nat) ^ 9 < 18446744073709551616 := by decide
    omega
  unfold accS shv
  simp only
  rw [hm, ← hp, Nat.mod_eq_of_lt hb, u64_or_nat n _ hn2 hb, hp, or_add _ _ _ (by rw [← hp]; exact hn)]
theorem dec_pre (bs : List UInt8) (j : Nat) (hj : j ≤ bs.length) (h : ∀ i, i < j → (ent bs i).goes) :
    j ≤ 9 ∧ ∃ n : Nat, accG (upto (ent bs) j) = (n : Int) ∧ n < 128 ^ j ∧ dec 0 0 bs = dec j n (bs.drop j) := by
  induction j with
  | zero => exact ⟨by omega, 0, by simp [upto, accG], by simp, by simp⟩
  | succ j ih =>
    obtain ⟨h9, n, h1, h2, h3⟩ := ih (by omega) (fun i hi => h i (by omega))
    have hg := h j (by omega)
    have hjl : j < bs.length := by omega
    have e1 : (ent bs j).k = j := Nat.mod_eq_of_lt (by omega)
    have e2 : (ent bs j).c = bs[j] := by simp [ent, List.getD, hjl]
    obtain ⟨g1, g2, g3⟩ := hg
    unfold Ent.bad9 at g1
    unfold Ent.bad0 at g2
    rw [e1, e2] at g1 g2
    rw [e2] at g3
    have hlt : j ≠ 9 := fun e => g1 ⟨e, by omega⟩
    have hent : ent bs j = ⟨j, bs[j], by omega⟩ := by
      have : ∀ p q : Ent, p.k = q.k → p.c = q.c → p = q := by
        rintro ⟨a, b, c⟩ ⟨a', b', c'⟩ rfl rfl; rfl
      exact this _ _ e1 e2
    refine ⟨by omega, n + (bs[j].toNat % 128) * 128 ^ j, ?_, ?_, ?_⟩
    · rw [upto_succ, accG_snoc, h1, hent]
      exact accS_step n j _ _ h9 (fun e => absurd e hlt) h2
    · have : bs[j].toNat % 128 ≤ 127 := by omega
      have h4 : (bs[j].toNat % 128) * 128 ^ j ≤ 127 * 128 ^ j := Nat.mul_le_mul_right _ this
      rw [Nat.pow_succ]; omega
    · rw [h3, drop_cons bs j hjl]
      simp only [dec]
      rw [if_neg g1, if_neg g2, if_neg (by omega)]
theorem upto_mem (bs : List UInt8) (k : Nat) (h : ∀ p ∈ upto (ent bs) k, p.goes) (i : Nat) (hi : i < k) : (ent bs i).goes := h _ (by simp only [upto, List.mem_map, List.mem_range]; exact ⟨i, hi, rfl⟩)
theorem getR_in (l : List UInt8) (a : Nat) (hal : a ≤ l.length) : getR l (a : Int) = (if (dec 0 0 (l.drop a)).2.2 = 0 then ((dec 0 0 (l.drop a)).1, (a : Int) + (dec 0 0 (l.drop a)).2.1, 0) else (0, 0, (dec 0 0 (l.drop a)).2.2)) := by
  unfold getR
  rw [if_neg (by omega), Int.toNat_natCast]
theorem get_done (l : List UInt8) (a : Nat) (bs : List UInt8) (hbs : l.drop a = bs) (hal : a ≤ l.length) (ys : List Ent)
    (hS : ∃ k, k ≤ bs.length ∧ ys = upto (ent bs) k ∧ (k = bs.length ∨ ∃ j, k = j + 1 ∧ (bs.getD j 0).toNat < 128)) (h : ∀ p ∈ ys, p.goes) : getR l (a : Int) = (0, 0, 4) := by
  obtain ⟨k, hk, rfl, hS⟩ := hS
  have hk2 : k = bs.length := by
    rcases hS with h1 | ⟨j, rfl, h1⟩
    · exact h1
    · have := (upto_mem bs _ h j (by omega)).2.2
      exact absurd h1 (by simp only [ent] at this; omega)
  subst hk2
  obtain ⟨_, n, _, _, h3⟩ := dec_pre bs bs.length (Nat.le_refl _) (fun i hi => upto_mem bs _ h i hi)
  rw [getR_in l a hal, hbs, h3, List.drop_length]
  simp [dec]
theorem get_stop (l : List UInt8) (a : Nat) (bs : List UInt8) (hbs : l.drop a = bs) (hal : a ≤ l.length) (pre : List Ent)
    (hS : ∃ k, k ≤ bs.length ∧ pre = upto (ent bs) k) (ini : List Ent) (last : Ent) (e : pre = ini ++ [last]) (h : ∀ p ∈ ini, p.goes) (x y z : Int) (he : Ends a (accG ini) last x y z) :
    ((getR l (a : Int)).1 : Int) = x ∧ (getR l (a : Int)).2.1 = y ∧ ((getR l (a : Int)).2.2 : Int) = z := by
  obtain ⟨k, hk, rfl⟩ := hS
  obtain ⟨k', rfl⟩ : ∃ k', k = k' + 1 := by
    cases k with
    | zero => simp [upto] at e
    | succ k' => exact ⟨k', rfl⟩
  rw [upto_succ] at e
  obtain ⟨rfl, e5⟩ := List.append_inj' e rfl
  obtain rfl : ent bs k' = last := by simpa using e5
  have hkl : k' < bs.length := by omega
  obtain ⟨h9, n, h1, h2, h3⟩ := dec_pre bs k' (by omega) (fun i hi => upto_mem bs _ h i hi)
  have e1 : (ent bs k').k = k' := Nat.mod_eq_of_lt (by omega)
  have e2 : (ent bs k').c = bs[k'] := by simp [ent, List.getD, hkl]
  have hent : ent bs k' = ⟨k', bs[k'], by omega⟩ := by
    have : ∀ p q : Ent, p.k = q.k → p.c = q.c → p = q := by
      rintro ⟨a, b, c⟩ ⟨a', b', c'⟩ rfl rfl; rfl
    exact this _ _ e1 e2
  rw [h1, hent] at he
  unfold Ends Ent.bad9 Ent.bad0 at he
  simp only at he
  rw [getR_in l a hal, hbs]
  rcases he with ⟨g, rfl, rfl, rfl⟩ | ⟨g1, g2, rfl, rfl, rfl⟩ | ⟨g1, g2, g3, rfl, rfl, rfl⟩
  · have hd : dec 0 0 bs = (0, 0, 6) := by rw [h3, drop_cons bs k' hkl]; simp only [dec]; rw [if_pos g]
    rw [hd]; simp
  · have hd : dec 0 0 bs = (0, 0, 5) := by rw [h3, drop_cons bs k' hkl]; simp only [dec]; rw [if_neg g1, if_pos g2]
    rw [hd]; simp
  · have hd : dec 0 0 bs = (n + bs[k'].toNat * 128 ^ k', k' + 1, 0) := by rw [h3, drop_cons bs k' hkl]; simp only [dec]; rw [if_neg g1, if_neg g2, if_pos g3]
    rw [hd, accS_step n k' _ _ h9 (fun e => by have : ¬ 1 < bs[k'].toNat := fun h => g1 ⟨e, h⟩; omega) h2, if_pos rfl, Nat.mod_eq_of_lt g3]
    refine ⟨rfl, ?_, rfl⟩
    simp; omega
end Go.Proofs.YtiakpcnglihnbaaDoor
/- A drawn region of plain reads before one store, within a round of a range over a function: what the fence's round asks of such operations is what the walk asks anywhere. -/
namespace Go.Proofs.YtiakpcnglihnbaaDoor
open Go
def tame : Op → Bool
  | .move _ | .assign _ | .pick .. | .load .. | .store .. | .binOp .. | .unOp .. | .convert .. => true
  | _ => false
theorem tame_exec {o : Oper} (h : tame o.op = true) (ρ : Operand → Value) : (∃ s : Sem Value, execOp ρ o = (do pure (Next.value (← s)))) ∨ (∃ s : Sem Unit, execOp ρ o = (do s; pure Next.skip)) := by
  unfold execOp
  cases ho : o.op <;> rw [ho] at h <;> first | (cases h; done) | skip
  case move x => exact .inl ⟨pure (ρ x), rfl⟩
  case assign x => exact .inl ⟨pure (ρ x), rfl⟩
  case pick c x y => exact .inl ⟨do pure (if ← asBool (ρ c) then ρ x else ρ y), by simp⟩
  case load => exact .inl ⟨_, rfl⟩
  case store => exact .inr ⟨_, rfl⟩
  case binOp => exact .inl ⟨_, rfl⟩
  case unOp => exact .inl ⟨_, rfl⟩
  case convert => exact .inl ⟨_, rfl⟩
theorem tame_defer {o : Oper} (h : tame o.op = true) (c : _) : o.op ≠ .defer c := by
  intro e; rw [e] at h; cases h
theorem tame_about {o : Oper} (h : tame o.op = true) (P : Program) (w : World) (ρ : Operand → Value) : o.about P w ρ = none := by
  unfold Oper.about
  cases ho : o.op <;> first | rfl | (rw [ho] at h; cases h)
section
variable {F : Fence} {n : Nat} {P : Program} {Q : Exit → Act → World → Prop}
/-- The plain end alone. -/
def Nrm (Q : Exit → Act → World → Prop) : Exit → Act → World → Prop := fun e a w => e = .normal ∧ Q .normal a w
theorem tame_wp {o : Oper} (h : tame o.op = true) {a : Act} {w : World} {K K' : Act → World → Prop} (hK : ∀ a w, K a w → K' a w) (hw : o.wp P a w K (Nrm Q)) : o.wpIn F n P a w K' Q := by
  refine ⟨fun f hf => (by rw [tame_about h] at hf; cases hf), ?_⟩
  have hs : o.semAt F.round a.eval = execOp a.eval o := by
    cases F.round with
    | none => exact Oper.semAt_none _ _
    | some l => exact Oper.semAt_some _ _ _ (tame_defer h)
  rw [hs]
  unfold Oper.wp at hw
  rcases tame_exec h a.eval with ⟨s, e⟩ | ⟨s, e⟩ <;> rw [e] at hw ⊢
  · simp only [Sem.run_bind, Sem.run_pure] at hw ⊢
    cases hr : s.run P w with
    | ok v w' => rw [hr] at hw; simp [Result.andThen, Oper.upon, Oper.uponIn] at hw ⊢; exact hK _ _ hw
    | halt c w' => rw [hr] at hw; cases c <;> simp [Result.andThen, Oper.upon, Nrm] at hw
  · simp only [Sem.run_bind, Sem.run_pure] at hw ⊢
    cases hr : s.run P w with
    | ok v w' => rw [hr] at hw; simp [Result.andThen, Oper.upon, Oper.uponIn] at hw ⊢; exact hK _ _ hw
    | halt c w' => rw [hr] at hw; cases c <;> simp [Result.andThen, Oper.upon, Nrm] at hw
theorem tame_op {ops : Array Oper} (h : ops.toList.all (fun o => tame o.op) = true) {i : Nat} {a : Act} {w : World} {K K' : Act → World → Prop} (hK : ∀ a w, K a w → K' a w) (hw : wpOp P ops (Nrm Q) i K a w) : wpOpIn F n P ops Q i K' a w := by
  unfold wpOp at hw
  unfold wpOpIn
  cases ho : ops[i]? with
  | none => rw [ho] at hw; exact hK _ _ hw
  | some o =>
    rw [ho] at hw
    have ht : tame o.op = true := by
      rw [List.all_eq_true] at h
      refine h o ?_
      rw [Array.mem_toList_iff]
      exact Array.mem_of_getElem? ho
    simp only at hw ⊢
    split
    · rename_i h1
      rw [if_pos h1] at hw
      rcases hw with hw | ⟨_, _, _, h2, _⟩
      · exact tame_wp ht hK hw
      · cases h2
    · rename_i h1
      rw [if_neg h1] at hw
      exact ⟨fun f hf => (by rw [tame_about ht] at hf; cases hf), hK _ _ hw⟩
theorem tame_any {md : Region.Mode} {ops : Array Oper} (h : ops.toList.all (fun o => tame o.op) = true) : ∀ (fuel : Nat) (listed : Array Bool) (a : Act) (w : World), wpAny P md ops (Nrm Q) fuel listed a w → wpAnyIn F n P md ops Q fuel listed a w
  | 0, _, _, _, hw => ⟨hw.1, hw.2.2⟩
  | fuel + 1, _, _, _, hw => ⟨fun h0 => (hw.1 h0).2, fun i hi => tame_op h (fun a' w' => tame_any h fuel _ a' w') (hw.2 i hi)⟩
theorem tame_list {ops : Array Oper} : ∀ (l : List Oper), l.all (fun o => tame o.op) = true → ∀ (a : Act) (w : World), wpListIn F n P ops Q l a w → True := fun _ _ _ _ _ => trivial
/-- The law. -/
theorem in_still_tail {id : Nat} {a : Act} {w : World} {l : List Oper} (k : Nat) (hm : P.follows .mixedOrders = true) (ht : l.all (fun o => tame o.op) = true) (hB : Region.lexTailB .any l.toArray k = true)
    (h : wpStill P l.toArray w.drew (fun a' => wpList P l.toArray (Nrm Q) (l.drop k) a' w.drew) (l.take k) a) : (Code.region id l.toArray true).wpIn F n P Q a w := by
  refine wpIn_region_any hm (tame_any (by simpa using ht) _ _ _ _ ?_)
  simp only [Region.lexTailB, Bool.and_eq_true, decide_eq_true_eq] at hB
  obtain ⟨⟨⟨⟨h1, h2⟩, h3⟩, h4⟩, h5⟩ := hB
  have hk : k < l.length := by simpa using h2
  have e1 : (l.take k).length = k := by simp; omega
  have e2 : l.toArray.size - k = (l.drop k).length := by simp
  have inv : HeadInv .any l.toArray k (Array.replicate l.toArray.size false) :=
    { size := by simp
      closed := fun j oj _ hl => (by rw [getD_replicate_false] at hl; cases hl)
      tail := fun t _ hlt => getD_in (by simpa using hlt) (getD_replicate_false _ _) }
  have H := wpAnyL_lex (md := .any) (g := (l.drop k).length) h1 h3 h4 h2 (l.take k) 0 _ a (fun j hj => by
    have : j < k := by omega
    simp [this]) (by omega) inv (by rw [e1, ← e2]; exact h5) h
  have R := wpAny_of_head (Q' := Nrm Q) (g := (l.drop k).length) (fun listed a' hL => wpAny_of_seq (md := .any) (l.drop k) k listed a' w.drew (fun j => by simp [List.getElem?_drop]) hL.1 hL.2) _ _ _ H
  have e3 : (l.take k).length + (l.drop k).length = l.toArray.size := by simp; omega
  rw [e3] at R
  exact R
end
end Go.Proofs.YtiakpcnglihnbaaDoor
/- The last region of a round of varint.Get: reads and stores in any order. -/
namespace Go.Proofs.YtiakpcnglihnbaaDoor
open Go.RowKit Go.Shelf
attribute [local go_sem] Oper.semAt_some

set_option maxHeartbeats 4000000 in
set_option maxRecDepth 20000 in
theorem get_reg13 {F : Fence} {n : Nat} {l h : Nat} {Q : Exit → Act → World → Prop} {W : World} {k a v : Int} {t0 t1 t2 t9 t10 t11 t12 t13 t14 t15 t16 t17 t18 t19 t20 t21 t22 t23 t24 t25 t26 t27 t28 t29 t30 t31 t32 t33 t34 t35 t36 t37 t38 t39 t40 t41 t42 t43 t44 t45 t46 t47 t48 t49 t50 t51 t52 : Value} {ops : Array Oper} (hops : ops = (((Tryd.f63.body.getD .skip).opers.drop 54).take 8).toArray)
    (hca : W.cell? ⟨h, 0, none⟩ = some (.int .i64 a)) (hcn : W.cell? ⟨h + 4, 0, none⟩ = some (.int .u64 v))
    (hc1 : W.cell? ⟨h + 1, 0, none⟩ = some (.int .u64 0)) (hc2 : W.cell? ⟨h + 2, 0, none⟩ = some (.int .i64 0)) (hc3 : W.cell? ⟨h + 3, 0, none⟩ = some (.int .i64 0))
    (hf1 : W.frozen? ⟨h + 1, 0, none⟩ = false) (hf2 : W.frozen? ⟨h + 2, 0, none⟩ = false) (hf3 : W.frozen? ⟨h + 3, 0, none⟩ = false)
    (hw1 : IntKind.i64.wrap (a + k) = a + k) (hw2 : IntKind.i64.wrap (a + k + 1) = a + k + 1)
    (hQ : ∀ a', Q .normal a' (((W.drew.setCell ⟨h + 1, 0, none⟩ (.int .u64 v)).setCell ⟨h + 2, 0, none⟩ (.int .i64 (a + k + 1))).setCell ⟨h + 3, 0, none⟩ (.int .i64 0))) :
    (Code.region 13 ops true).wpIn (F.inRound l) n Tryd.prog Q { tmps := #[t0, t1, t2, .pointer (some ⟨h, 0, none⟩), .pointer (some ⟨h + 1, 0, none⟩), .pointer (some ⟨h + 1 + 1, 0, none⟩), .pointer (some ⟨h + 1 + 1 + 1, 0, none⟩), .pointer (some ⟨h + 1 + 1 + 1 + 1, 0, none⟩), .int .i64 k, t9, t10, t11, t12, t13, t14, t15, t16, t17, t18, t19, t20, t21, t22, t23, t24, t25, t26, t27, t28, t29, t30, t31, t32, t33, t34, t35, t36, t37, t38, t39, t40, t41, t42, t43, t44, t45, t46, t47, t48, t49, t50, t51, t52], defers := [] } W := by
  subst hops
  have hmx : Tryd.prog.follows .mixedOrders = true := by kernel_rfl
  dsimp only [Tryd.f63, Option.getD, Code.opers, List.append, List.drop, List.take, HAppend.hAppend, Append.append]
  gi_region_with_o fail
  all_goals (try gi_wp2)
  all_goals exact hQ _
end Go.Proofs.YtiakpcnglihnbaaDoor
