/- The walk of the reference's Get. -/
import Derived.Test.YtdcnpkpibbefhaaProg
import Derived.Test.YtdcnpkpibbefhaaVarM
import Derived.Test.YtdcnpkpibbefhaaKit3
namespace Go.Proofs.Ytdcnpkpibbefhaa
open Go.RowKit
theorem drop_cons {α : Type} (l : List α) (k : Nat) (h : k < l.length) : l.drop k = l[k] :: l.drop (k + 1) := by
  rw [List.drop_eq_getElem_cons h]
theorem pow128 (k : Nat) (h : k ≤ 9) : 128 ^ k ≤ 9223372036854775808 := by
  have : 128 ^ k ≤ 128 ^ 9 := Nat.pow_le_pow_right (by omega) h
  omega
def res3 (n : Nat) (to : Int) (e : Nat) : Value := .tuple #[.int .u64 (n : Int), .int .i64 to, .int .i64 (e : Int)]
set_option maxHeartbeats 2000000 in
set_option maxRecDepth 20000 in
theorem rget_any (w : World) (B : Nat) (A : Option Addr) (cap : Nat) (l : List UInt8) (at_ : Int) (hR : Rd w B A (bv l)) (hl : l.length ≤ 281474976710656) (ha : -9223372036854775808 ≤ at_ ∧ at_ ≤ 9223372036854775807) :
    Calls Try.prog 31 #[.slice A l.length cap, .int .i64 at_] w fun e w' => e = .returned (res3 (getR l at_).1 (getR l at_).2.1 (getR l at_).2.2) ∧ w = w' := by
  by_cases hat : at_ < 0 ∨ (l.length : Int) < at_
  · have hg : getR l at_ = (0, 0, 2) := by unfold getR; rw [if_pos hat]
    rw [hg]
    clear hg
    rcases Int.lt_or_le at_ 0 with h0 | h0
    · go_enter Try.func31, Try.ntmps31
      go_wp2_with fail
      go_ret3
      exact ⟨rfl, rfl⟩
    · have h1 : (l.length : Int) < at_ := by omega
      clear hat
      go_enter Try.func31, Try.ntmps31
      go_wp2_with fail
      go_ret3
      exact ⟨rfl, rfl⟩
  · obtain ⟨a, rfl⟩ : ∃ a : Nat, at_ = (a : Int) := Int.eq_ofNat_of_zero_le (by omega)
    have hal : a ≤ l.length := by omega
    obtain ⟨r, hr⟩ : ∃ r, r = l.drop a := ⟨_, rfl⟩
    have hrl : r.length = l.length - a := by rw [hr, List.length_drop]
    have hg : getR l (a : Int) = (if (dec 0 0 r).2.2 = 0 then ((dec 0 0 r).1, (a : Int) + (dec 0 0 r).2.1, 0) else (0, 0, (dec 0 0 r).2.2)) := by
      unfold getR
      rw [if_neg hat, hr, Int.toNat_natCast]
    have hcell : ∀ (k : Nat) (h : k < r.length), ∃ b o, A = some ⟨b, o, none⟩ ∧ b < B ∧ w.cell? ⟨b, o + (a + k), none⟩ = some (.int .u8 ((r[k]).toNat : Int)) := by
      intro k h
      obtain ⟨b, o, e, hb, hc⟩ := hR.byte (j := a + k) (by omega)
      refine ⟨b, o, e, hb, ?_⟩
      rw [hc]
      subst hr
      simp
    have Hg := Lib.hid hg
    have Hcell := Lib.hid hcell
    have Hrl := Lib.hid hrl
    have hd1 : ¬ l.length < a := by omega
    have hd2 : ¬ (a : Int) < 0 := by omega
    clear hg hcell hrl hr hat hR
    go_enter Try.func31, Try.ntmps31
    go_wp2_with fail
    go_loop [7, 8, 9] (fun nv uv kv => ∃ (k n U : Nat), k ≤ 9 ∧ k ≤ r.length ∧ kv = .int .i64 (k : Int) ∧ nv = .int .u64 (n : Int) ∧ uv = .int .u64 (U : Int) ∧ Hid (U = 128 ^ k) ∧ Hid (n < 128 ^ k) ∧ Hid (dec 0 0 r = dec k n (r.drop k))) (fun _ _ k => r.length + 1 - (intOf k).toNat)
    case atStart => exact ⟨0, 0, 1, by omega, by omega, rfl, rfl, rfl, rfl, (show 0 < 128 ^ 0 by decide), rfl⟩
    case round =>
      obtain ⟨k, n, U, hk9, hkr, rfl, rfl, rfl, hU, hn, hdec⟩ := hrel
      have hrl1 : r.length + a ≤ l.length := by have := Hrl.out; omega
      have hrl2 : l.length ≤ r.length + a := by have := Hrl.out; omega
      by_cases hlt : k < r.length
      · obtain ⟨b, o, rfl, hbB, hc⟩ := Hcell.out k hlt
        have hd := drop_cons r k hlt
        obtain ⟨c, hcc⟩ : ∃ c, c = r[k] := ⟨_, rfl⟩
        rw [← hcc] at hc hd
        have Hd := Lib.hid hd
        clear hcc hd
        have hc8 := u8_lt c
        have hge : ¬ (l.length : Int) - (a : Int) ≤ (k : Int) := by omega
        have hi1 : a + k < l.length := by omega
        by_cases h9 : k = 9 ∧ 1 < c.toNat
        · have hres : dec 0 0 r = (0, 0, 6) := by rw [hdec.out, Hd.out, dec, if_pos h9]
          have hfin : getR l (a : Int) = (0, 0, 6) := by rw [Hg.out, hres]; rfl
          obtain ⟨rfl, h91⟩ := h9
          have Hfin := Lib.hid hfin
          clear hres hfin
          go_wp2_with fail
          go_ret3
          rw [Hfin.out]
          exact ⟨rfl, rfl⟩
        · have h9' : ¬ k = 9 ∨ c.toNat ≤ 1 := by omega
          have hn64 : n + c.toNat % 128 * U < 18446744073709551616 := by
            have h1 := hn.out
            have h2 := pow128 k hk9
            have h3 := hU.out
            by_cases hk : k = 9
            · have : c.toNat ≤ 1 := by omega
              have : c.toNat % 128 * U ≤ 1 * U := Nat.mul_le_mul_right _ (by omega)
              omega
            · have h4 : 128 ^ k ≤ 128 ^ 8 := Nat.pow_le_pow_right (by omega) (by omega)
              have : c.toNat % 128 * U ≤ 127 * U := Nat.mul_le_mul_right _ (by omega)
              omega
          have hnew : IntKind.u64.wrap ((n : Int) + IntKind.u64.wrap ((c.toNat : Int) % (128 : Int) * (U : Int))) = ((n + c.toNat % 128 * U : Nat) : Int) := by
            have e : (c.toNat : Int) % (128 : Int) * (U : Int) = ((c.toNat % 128 * U : Nat) : Int) := by rw [Int.natCast_mul]; rfl
            rw [e]
            generalize c.toNat % 128 * U = P at hn64 ⊢
            rw [IntKind.wrap_u64, IntKind.wrap_u64]
            omega
          by_cases hs : c.toNat < 128
          · by_cases h5 : c.toNat = 0 ∧ 0 < k
            · have hres : dec 0 0 r = (0, 0, 5) := by rw [hdec.out, Hd.out, dec, if_neg h9, if_pos h5]
              have hfin : getR l (a : Int) = (0, 0, 5) := by rw [Hg.out, hres]; rfl
              have Hfin := Lib.hid hfin
              have hc0 : ((c.toNat : Int) == 0) = true := by simp; omega
              have hk0 := h5.2
              have Hnew := Lib.hid hnew
              clear hres hfin h5 h9 hn64 hnew
              go_wp2_with fail
              all_goals
                go_ret3
                rw [Hfin.out]
                exact ⟨rfl, rfl⟩
            · have hres : dec 0 0 r = (n + c.toNat * 128 ^ k, k + 1, 0) := by rw [hdec.out, Hd.out, dec, if_neg h9, if_neg h5, if_pos hs]
              have hfin : getR l (a : Int) = (n + c.toNat * 128 ^ k, (a : Int) + ((k + 1 : Nat) : Int), 0) := by rw [Hg.out, hres]; rfl
              have Hfin := Lib.hid hfin
              have Hnew := Lib.hid hnew
              have hck : c.toNat = 0 → k = 0 := by omega
              have Hck := Lib.hid hck
              clear hres hfin h5 h9 hn64 hnew hck
              have fin : ∀ m : Int, m = (a : Int) + k + 1 → Ending.returned (.tuple #[.int .u64 (IntKind.u64.wrap ((n : Int) + IntKind.u64.wrap ((c.toNat : Int) % (128 : Int) * (U : Int)))), .int .i64 m, .int .i64 0]) = .returned (res3 (getR l (a : Int)).1 (getR l (a : Int)).2.1 (getR l (a : Int)).2.2) := by
                intro m hm
                rw [Hfin.out, Hnew.out, hU.out, Nat.mod_eq_of_lt hs, hm]
                unfold res3
                simp
                omega
              have Fin := Lib.hid fin
              clear fin
              by_cases hk0 : 0 < k
              · have hc0 : ((c.toNat : Int) == 0) = false := by have := Hck.out; simp; omega
                go_wp2_with fail
                all_goals
                  go_ret3
                  exact ⟨Fin.out _ (by omega), rfl⟩
              · go_wp2_with fail
                all_goals
                  go_ret3
                  exact ⟨Fin.out _ (by omega), rfl⟩
          · have hk8 : k ≤ 8 := by omega
            have hres : dec 0 0 r = dec (k + 1) (n + c.toNat % 128 * U) (r.drop (k + 1)) := by
              rw [hdec.out, Hd.out, dec, if_neg h9, if_neg (by omega), if_neg hs, hU.out]
            have hU' : IntKind.u64.wrap ((U : Int) * (128 : Int)) = ((U * 128 : Nat) : Int) := by
              have h2 : 128 ^ k ≤ 128 ^ 8 := Nat.pow_le_pow_right (by omega) hk8
              have h3 := hU.out
              rw [IntKind.wrap_u64]
              omega
            have hn' : n + c.toNat % 128 * U < 128 ^ (k + 1) := by
              have h1 := hn.out
              have h3 := hU.out
              have : c.toNat % 128 * U ≤ 127 * U := Nat.mul_le_mul_right _ (by omega)
              rw [Nat.pow_succ]
              omega
            have hU2 : U * 128 = 128 ^ (k + 1) := by rw [Nat.pow_succ, hU.out]
            have Hres := Lib.hid hres
            have HU' := Lib.hid hU'
            have Hn' := Lib.hid hn'
            have HU2 := Lib.hid hU2
            have Hnew := Lib.hid hnew
            have hs' : 128 ≤ c.toNat := by omega
            clear hres hU' hn' hU2 hnew hn64 h9 hs
            go_wp2_with fail
            exact ⟨⟨k + 1, n + c.toNat % 128 * U, U * 128, by omega, by omega, by go_num, int_eq Hnew.out, int_eq HU'.out, HU2, Hn', Hres⟩, by simp [intOf]; omega⟩
      · have hkr' : k = r.length := by omega
        have hres : dec 0 0 r = (0, 0, 4) := by rw [hdec.out, List.drop_of_length_le (by omega)]; rfl
        have hfin : getR l (a : Int) = (0, 0, 4) := by rw [Hg.out, hres]; rfl
        have Hfin := Lib.hid hfin
        have hge : (l.length : Int) - (a : Int) ≤ (k : Int) := by omega
        clear hres hfin hkr'
        go_wp2_with fail
        go_ret3
        rw [Hfin.out]
        exact ⟨rfl, rfl⟩
end Go.Proofs.Ytdcnpkpibbefhaa
