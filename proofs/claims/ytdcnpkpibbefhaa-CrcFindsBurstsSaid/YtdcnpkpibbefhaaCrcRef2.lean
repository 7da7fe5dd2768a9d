/- The walk of the reference's Check. -/
import Derived.Test.YtdcnpkpibbefhaaCrcRef
namespace Go.Proofs.Ytdcnpkpibbefhaa
open Go.RowKit
theorem i64_in (x : Int) (h0 : 0 ≤ x) (h1 : x ≤ 9223372036854775807) : IntKind.i64.wrap x = x := by rw [IntKind.wrap_i64]; omega
set_option maxHeartbeats 1000000 in
theorem rchk4 (w : World) (B b o n : Nat) (cap : Nat) (l : List UInt8) (c0 c1 c2 c3 : UInt8) (hlen : l.length = n) (hR : Rd w B (some ⟨b, o, none⟩) (bv (l ++ [c0, c1, c2, c3]))) (hl : n ≤ 140737488355320) (hc : n + 4 ≤ cap) :
    Calls Try.prog 24 #[.slice (some ⟨b, o, none⟩) (n + 4) cap] w fun e w' => e = .returned (.bool (N32 (crcU 0#32 l) == (c0.toNat : Int) + c1.toNat * 256 + c2.toNat * 65536 + c3.toNat * 16777216)) ∧ ∃ n, w' = w.drewN n := by
  have hcell : ∀ (i : Nat) (c : UInt8), (l ++ [c0, c1, c2, c3])[n + i]? = some c → w.cell? ⟨b, o + (n + i), none⟩ = some (.int .u8 (c.toNat : Int)) := by
    intro i c h
    obtain ⟨b', o', e', _, h'⟩ := hR (n + i) (.int .u8 (c.toNat : Int)) (by simp only [bv, List.getElem?_map, h]; rfl)
    cases e'
    exact h'
  have h0 := hcell 0 c0 (by subst hlen; simp)
  have h1 := hcell 1 c1 (by subst hlen; simp)
  have h2 := hcell 2 c2 (by subst hlen; simp)
  have h3 := hcell 3 c3 (by subst hlen; simp)
  clear hcell
  simp only [Nat.add_zero] at h0
  have hR2 : Rd w B (some ⟨b, o, none⟩) (bv l) := by
    intro j u hu
    refine hR j u ?_
    rw [bv_append, List.getElem?_append_left (by have := (List.getElem?_eq_some_iff.1 hu).1; exact this)]
    exact hu
  have hsum : ∀ k, Calls Try.prog 19 #[.slice (some ⟨b, o, none⟩) n cap] (w.drewN k) fun e w' => e = .returned (.int .u32 (N32 (crcU 0#32 l))) ∧ w.drewN k = w' := by
    intro k
    have := rsum_any (w.drewN k) B (some ⟨b, o, none⟩) cap l (hR2.drewN k) (by omega)
    rw [hlen] at this
    exact this
  have Hsum := Lib.hid hsum
  clear hsum hR hR2 hlen
  have hc0 := u8_lt c0
  have hc1 := u8_lt c1
  have hc2 := u8_lt c2
  have hc3 := u8_lt c3
  have p1 : (0 : Int) ≤ (n : Int) + 1 := by omega
  have p2 : (0 : Int) ≤ (n : Int) + 2 := by omega
  have p3 : (0 : Int) ≤ (n : Int) + 3 := by omega
  have q1 : ((n : Int) + 1) < (n : Int) + 4 := by omega
  have q2 : ((n : Int) + 2) < (n : Int) + 4 := by omega
  have q3 : ((n : Int) + 3) < (n : Int) + 4 := by omega
  go_enter Try.func24, Try.ntmps24
  go_wp2
  have t1 : ((n : Int) + 1).toNat = n + 1 := by omega
  have t2 : ((n : Int) + 2).toNat = n + 2 := by omega
  have t3 : ((n : Int) + 3).toNat = n + 3 := by omega
  have s1 : IntKind.i64.wrap ((n : Int) + 1) = (n : Int) + 1 := i64_in _ (by omega) (by omega)
  have s2 : IntKind.i64.wrap ((n : Int) + 2) = (n : Int) + 2 := i64_in _ (by omega) (by omega)
  have s3 : IntKind.i64.wrap ((n : Int) + 3) = (n : Int) + 3 := i64_in _ (by omega) (by omega)
  go_quiet (fail)
  go_wp2_with (go_at_call 19; refine (Hsum.out _).mono ?_; rintro e w1 ⟨rfl, rfl⟩)
  go_ret
  exact ⟨rfl, _, rfl⟩

theorem leN4 (x : BitVec 32) : leN 4 x = [le1 0 x, le1 1 x, le1 2 x, le1 3 x] := rfl
theorem u8_eq {c : UInt8} {n : Nat} (h : c.toNat = n % 256) : UInt8.ofNat n = c := by
  apply UInt8.toNat_inj.1
  rw [UInt8.toNat_ofNat', h]
theorem le4_iff (x : BitVec 32) (c0 c1 c2 c3 : UInt8) : (N32 x == (c0.toNat : Int) + c1.toNat * 256 + c2.toNat * 65536 + c3.toNat * 16777216) = decide (leN 4 x = [c0, c1, c2, c3]) := by
  have hx := x.isLt
  have h0 := u8_lt c0
  have h1 := u8_lt c1
  have h2 := u8_lt c2
  have h3 := u8_lt c3
  rw [Bool.eq_iff_iff, decide_eq_true_iff, beq_iff_eq]
  constructor
  · intro h
    unfold N32 at h
    have e : x.toNat = c0.toNat + c1.toNat * 256 + c2.toNat * 65536 + c3.toNat * 16777216 := by omega
    have a0 : le1 0 x = c0 := u8_eq (by simp only [e]; omega)
    have a1 : le1 1 x = c1 := u8_eq (by simp only [e]; omega)
    have a2 : le1 2 x = c2 := u8_eq (by simp only [e]; omega)
    have a3 : le1 3 x = c3 := u8_eq (by simp only [e]; omega)
    rw [leN4, a0, a1, a2, a3]
  · intro h
    rw [leN4] at h
    injection h with a0 h
    injection h with a1 h
    injection h with a2 h
    injection h with a3 _
    have b0 := congrArg UInt8.toNat a0
    have b1 := congrArg UInt8.toNat a1
    have b2 := congrArg UInt8.toNat a2
    have b3 := congrArg UInt8.toNat a3
    simp only [le1, UInt8.toNat_ofNat'] at b0 b1 b2 b3
    unfold N32
    omega
theorem last4 (l : List UInt8) (h : 4 ≤ l.length) : ∃ p c0 c1 c2 c3, l = p ++ [c0, c1, c2, c3] := by
  refine ⟨l.take (l.length - 4), l[l.length - 4], l[l.length - 3], l[l.length - 2], l[l.length - 1], ?_⟩
  apply List.ext_getElem?
  intro i
  by_cases hi : i < l.length - 4
  · rw [List.getElem?_append_left (by simp; omega), List.getElem?_take, if_pos hi]
  · rw [List.getElem?_append_right (by simp; omega), List.length_take, Nat.min_eq_left (by omega)]
    by_cases h1 : i < l.length
    · obtain h | h | h | h : i = l.length - 4 ∨ i = l.length - 3 ∨ i = l.length - 2 ∨ i = l.length - 1 := by omega
      · rw [show i - (l.length - 4) = 0 by omega, List.getElem?_eq_getElem h1]; simp [h]
      · rw [show i - (l.length - 4) = 1 by omega, List.getElem?_eq_getElem h1]; simp [h]
      · rw [show i - (l.length - 4) = 2 by omega, List.getElem?_eq_getElem h1]; simp [h]
      · rw [show i - (l.length - 4) = 3 by omega, List.getElem?_eq_getElem h1]; simp [h]
    · rw [List.getElem?_eq_none (by omega), List.getElem?_eq_none (by simp; omega)]
set_option maxHeartbeats 1000000 in
theorem rchk_any (w : World) (B : Nat) (A : Option Addr) (cap : Nat) (l : List UInt8) (hR : Rd w B A (bv l)) (hl : l.length ≤ 140737488355320) (hc : l.length ≤ cap) :
    Calls Try.prog 24 #[.slice A l.length cap] w fun e w' => e = .returned (.bool (checkB l)) ∧ ∃ n, w' = w.drewN n := by
  by_cases h4 : l.length < 4
  · have hb : checkB l = false := by unfold checkB; rw [decide_eq_false (by omega)]; rfl
    have Hb := Lib.hid hb
    clear hb
    go_enter Try.func24, Try.ntmps24
    go_wp2
    go_ret
    rw [Hb.out]
    exact ⟨rfl, 0, rfl⟩
  · obtain ⟨p, c0, c1, c2, c3, rfl⟩ := last4 l (by omega)
    obtain ⟨b, o, rfl, _, _⟩ := hR.byte (j := 0) (by omega)
    have hb : checkB (p ++ [c0, c1, c2, c3]) = (N32 (crcU 0#32 p) == (c0.toNat : Int) + c1.toNat * 256 + c2.toNat * 65536 + c3.toNat * 16777216) := by
      rw [le4_iff]
      unfold checkB withCrc
      rw [decide_eq_true (by simp), Bool.true_and]
      have e : (p ++ [c0, c1, c2, c3]).take ((p ++ [c0, c1, c2, c3]).length - 4) = p := by simp
      rw [e]
      simp
    have hln : (p ++ [c0, c1, c2, c3]).length = p.length + 4 := by simp
    rw [hln] at hl hc ⊢
    rw [hb]
    exact rchk4 w B b o p.length cap p c0 c1 c2 c3 rfl hR (by omega) (by omega)
end Go.Proofs.Ytdcnpkpibbefhaa
