/- Lemmas and contracts of functions, several texts in one: C0 C4 C1 C2 C3. -/
import Derived.Test.YtgaadmgcjnikkaaGJ
import Derived.Test.YtgaadmgcjnikkaaGG
import Derived.Test.YtgaadmgcjnikkaaGP
import Derived.Test.YtgaadmgcjnikkaaGI
/- package container: what is read, in plain Lean. -/
namespace Go.Proofs.Ytgaadmgcjnikkaa
open Go.RowKit
set_option linter.unusedVariables false
set_option linter.unusedSimpArgs false
/-- A section: its number, the offsets of its data. -/
structure Sec where
  id : Nat
  fr : Nat
  to : Nat
/-- One section at an offset, or the error. -/
def nextF (b : List UInt8) (at_ last : Nat) : Sec × Nat :=
  let id := (b.getD at_ 0).toNat
  if id ≤ last ∨ 127 < id then (⟨0, 0, 0⟩, 9) else
  let r := getR b (at_ + 1 : Nat)
  if r.2.2 ≠ 0 then (⟨0, 0, 0⟩, r.2.2) else
  if (b.length : Int) - r.2.1 - 4 < 0 ∨ (b.length : Int) - r.2.1 - 4 < r.1 then (⟨0, 0, 0⟩, 4) else
  if checkB ((b.drop r.2.1.toNat).take (r.1 + 4)) = true then (⟨id, r.2.1.toNat, r.2.1.toNat + r.1⟩, 0) else (⟨0, 0, 0⟩, 10)
/-- What a frame's cells hold. -/
def frD (x : Sec × Nat) : List D := [i64 x.1.id, i64 x.1.fr, i64 x.1.to, i64 x.2]
theorem getR_lt {b : List UInt8} {a : Int} {n : Nat} {k : Int} {e : Nat} (ha : 0 ≤ a ∧ a ≤ b.length) (h : getR b a = (n, k, e)) (he : e = 0) : a ≤ k ∧ k ≤ b.length ∧ n < 18446744073709551616 := by
  subst he; exact getR_to ha h
theorem next_ok {b : List UInt8} {at_ last : Nat} (ha : at_ < b.length) (h : (nextF b at_ last).2 = 0) : last < (nextF b at_ last).1.id ∧ (nextF b at_ last).1.id ≤ 127 ∧ at_ + 1 ≤ (nextF b at_ last).1.fr ∧ (nextF b at_ last).1.fr ≤ (nextF b at_ last).1.to ∧ (nextF b at_ last).1.to + 4 ≤ b.length := by
  unfold nextF at h ⊢
  simp only at h ⊢
  split at h
  · simp at h
  · rename_i h1
    rw [if_neg h1]
    split at h
    · rename_i h2; exact absurd h h2
    · rename_i h2
      rw [if_neg h2]
      split at h
      · simp at h
      · rename_i h3
        rw [if_neg h3]
        split at h
        · rename_i h4
          rw [if_pos h4]
          obtain ⟨⟨n, k, e⟩, hg⟩ : ∃ x, getR b (at_ + 1 : Nat) = x := ⟨_, rfl⟩
          rw [hg] at h2 h3 ⊢
          simp only at h2 h3 ⊢
          have := getR_lt (b := b) ⟨by omega, by omega⟩ hg (by omega)
          omega
        · simp at h
theorem nextF_err {b : List UInt8} {at_ last id fr to e : Nat} (h : nextF b at_ last = (⟨id, fr, to⟩, e)) (he : e ≠ 0) : id = 0 ∧ fr = 0 ∧ to = 0 := by
  unfold nextF at h
  simp only at h
  split at h
  · simp at h; omega
  · split at h
    · simp at h; omega
    · split at h
      · simp at h; omega
      · split at h
        · simp at h; omega
        · simp at h; omega
/-- All sections, and the error at the end. -/
def scan (b : List UInt8) : Nat → Nat → Nat → List Sec × Nat
  | 0, _, _ => ([], 0)
  | k + 1, at_, last => if at_ < b.length then (if (nextF b at_ last).2 = 0 then ((nextF b at_ last).1 :: (scan b k ((nextF b at_ last).1.to + 4) (nextF b at_ last).1.id).1, (scan b k ((nextF b at_ last).1.to + 4) (nextF b at_ last).1.id).2) else ([], (nextF b at_ last).2)) else ([], 0)
def headF (b : List UInt8) : Nat := if b.take 4 = [77, 73, 82, 84] then (if b.length = 4 then 4 else if b.getD 4 0 = 1 then 0 else 8) else 7
def readF (b : List UInt8) : List Sec × Nat := if headF b = 0 then scan b b.length 5 0 else ([], headF b)
/-- The frames that are handed to yield. -/
def frs (r : List Sec × Nat) : List (Sec × Nat) := r.1.map (fun s => (s, 0)) ++ (if r.2 = 0 then [] else [(⟨0, 0, 0⟩, r.2)])
end Go.Proofs.Ytgaadmgcjnikkaa
/- package container: what is written, and how it is read back, in plain Lean. -/
namespace Go.Proofs.Ytgaadmgcjnikkaa
open Go.RowKit
set_option linter.unusedVariables false
set_option linter.unusedSimpArgs false
theorem scan_succ (b : List UInt8) (k at_ last : Nat) : scan b (k + 1) at_ last = if at_ < b.length then (if (nextF b at_ last).2 = 0 then ((nextF b at_ last).1 :: (scan b k ((nextF b at_ last).1.to + 4) (nextF b at_ last).1.id).1, (scan b k ((nextF b at_ last).1.to + 4) (nextF b at_ last).1.id).2) else ([], (nextF b at_ last).2)) else ([], 0) := rfl
/-- A section as it is handed to Write. -/
abbrev SecI := Int × List UInt8
def encS (s : SecI) : List UInt8 := UInt8.ofNat s.1.toNat :: (put s.2.length ++ withCrc s.2)
def encL (l : List SecI) : List UInt8 := (l.map encS).flatten
def okL : Int → List SecI → Bool
  | _, [] => true
  | last, s :: l => decide (last < s.1) && decide (s.1 ≤ 127) && okL s.1 l
def lastI : Int → List SecI → Int
  | last, [] => last
  | _, s :: l => lastI s.1 l
def mirt : List UInt8 := [77, 73, 82, 84, 1]
def wrF (l : List SecI) : List UInt8 × Nat := if okL 0 l = true then (mirt ++ encL l, 0) else ([], 2)
theorem okL_app : ∀ (l m : List SecI) (a : Int), okL a (l ++ m) = (okL a l && okL (lastI a l) m)
  | [], m, a => by simp [okL, lastI]
  | s :: l, m, a => by simp only [List.cons_append, okL, lastI, okL_app l m, Bool.and_assoc]
theorem lastI_app : ∀ (l m : List SecI) (a : Int), lastI a (l ++ m) = lastI (lastI a l) m
  | [], m, a => rfl
  | s :: l, m, a => by simp only [List.cons_append, lastI, lastI_app l m]
theorem encL_app (l m : List SecI) : encL (l ++ m) = encL l ++ encL m := by simp [encL]
theorem encL_one (s : SecI) : encL [s] = encS s := by simp [encL]
theorem lastI_range : ∀ {l : List SecI} {a : Int}, okL a l = true → a ≤ lastI a l ∧ (lastI a l ≤ 127 ∨ lastI a l = a)
  | [], a, _ => ⟨Int.le_refl _, .inr rfl⟩
  | s :: l, a, h => by
    simp only [okL, Bool.and_eq_true, decide_eq_true_eq] at h
    have := lastI_range h.2
    simp only [lastI]
    omega
def small (s : SecI) : Prop := s.2.length < 9223372036854775807
theorem encS_length (s : SecI) : (encS s).length = 1 + (put s.2.length).length + s.2.length + 4 := by
  simp only [encS, List.length_cons, List.length_append, withCrc_length]; omega
/-- The offsets of the sections. -/
def secsAt : Nat → List SecI → List Sec
  | _, [] => []
  | a, s :: l => ⟨s.1.toNat, a + 1 + (put s.2.length).length, a + 1 + (put s.2.length).length + s.2.length⟩ :: secsAt (a + (encS s).length) l
theorem getR_at (pre : List UInt8) (c : UInt8) (n : Nat) (r : List UInt8) (hn : n < 18446744073709551616) : getR (pre ++ c :: (put n ++ r)) ((pre.length + 1 : Nat) : Int) = (n, ((pre.length + 1 : Nat) : Int) + (put n).length, 0) := by
  have h := getR_put (pre ++ [c]) r n hn
  rw [List.length_append, List.append_assoc] at h
  exact h
theorem getD_at (pre : List UInt8) (c : UInt8) (r : List UInt8) : (pre ++ c :: r).getD pre.length 0 = c := by simp [List.getD]
/-- A section, well written, whatever its data's checksum: q is data and checksum. -/
theorem nextF_raw (pre q r : List UInt8) (id : Int) (n last : Nat) (h1 : (last : Int) < id) (h2 : id ≤ 127) (hn : n < 9223372036854775807) (hq : q.length = n + 4) :
    nextF (pre ++ (UInt8.ofNat id.toNat :: (put n ++ (q ++ r)))) pre.length last = if checkB q = true then (⟨id.toNat, pre.length + 1 + (put n).length, pre.length + 1 + (put n).length + n⟩, 0) else (⟨0, 0, 0⟩, 10) := by
  have hid : (UInt8.ofNat id.toNat).toNat = id.toNat := by rw [UInt8.toNat_ofNat']; omega
  unfold nextF
  rw [getD_at, hid, getR_at pre _ n _ (by omega)]
  simp only
  rw [if_neg (by omega), if_neg (by simp)]
  have hlen : (pre ++ (UInt8.ofNat id.toNat :: (put n ++ (q ++ r)))).length = pre.length + 1 + (put n).length + q.length + r.length := by
    simp only [List.length_append, List.length_cons]; omega
  rw [hlen]
  rw [if_neg (by omega)]
  have ht : (((pre.length + 1 : Nat) : Int) + (put n).length).toNat = pre.length + 1 + (put n).length := by omega
  rw [ht]
  have hd : ((pre ++ (UInt8.ofNat id.toNat :: (put n ++ (q ++ r)))).drop (pre.length + 1 + (put n).length)).take (n + 4) = q := by
    have e : pre ++ (UInt8.ofNat id.toNat :: (put n ++ (q ++ r))) = (pre ++ (UInt8.ofNat id.toNat :: put n)) ++ (q ++ r) := by simp
    rw [e, List.drop_left' (by simp; omega), List.take_left' hq]
  rw [hd]
theorem nextF_enc (pre r : List UInt8) (s : SecI) (last : Nat) (h1 : (last : Int) < s.1) (h2 : s.1 ≤ 127) (hs : small s) :
    nextF (pre ++ (encS s ++ r)) pre.length last = (⟨s.1.toNat, pre.length + 1 + (put s.2.length).length, pre.length + 1 + (put s.2.length).length + s.2.length⟩, 0) := by
  have h := nextF_raw pre (withCrc s.2) r s.1 s.2.length last h1 h2 hs (withCrc_length _)
  rw [if_pos (checkB_withCrc _)] at h
  rw [← h]
  simp only [encS, List.cons_append, List.append_assoc]
/-- Well written sections are read, and the rest behind them. -/
theorem scan_app : ∀ (l : List SecI) (pre r : List UInt8) (last k : Nat), okL last l = true → (∀ s ∈ l, small s) → l.length ≤ k →
    scan (pre ++ (encL l ++ r)) k pre.length last = (secsAt pre.length l ++ (scan (pre ++ (encL l ++ r)) (k - l.length) (pre.length + (encL l).length) (lastI last l).toNat).1, (scan (pre ++ (encL l ++ r)) (k - l.length) (pre.length + (encL l).length) (lastI last l).toNat).2)
  | [], pre, r, last, k, _, _, _ => by simp [encL, secsAt, lastI]
  | s :: l, pre, r, last, 0, _, _, hk => by simp at hk
  | s :: l, pre, r, last, k + 1, hok, hs, hk => by
    simp only [okL, Bool.and_eq_true, decide_eq_true_eq] at hok
    have he : encL (s :: l) = encS s ++ encL l := by simp [encL]
    have hn := nextF_enc pre (encL l ++ r) s last hok.1.1 hok.1.2 (hs s (by simp))
    have hlt : pre.length < (pre ++ (encS s ++ (encL l ++ r))).length := by simp only [List.length_append, encS_length]; omega
    have hid : ((s.1.toNat : Nat) : Int) = s.1 := by omega
    have ih := scan_app l (pre ++ encS s) r s.1.toNat k (by rw [hid]; exact hok.2) (fun x hx => hs x (by simp [hx])) (by simp at hk; omega)
    rw [he, List.append_assoc, scan_succ, if_pos hlt, hn]
    simp only [if_true]
    have hp : pre.length + 1 + (put s.2.length).length + s.2.length + 4 = (pre ++ encS s).length := by rw [List.length_append, encS_length]; omega
    rw [hp, show pre ++ (encS s ++ (encL l ++ r)) = (pre ++ encS s) ++ (encL l ++ r) by simp, ih]
    simp only [secsAt, lastI, List.length_cons, List.cons_append, hid, List.length_append, Nat.add_sub_add_right, Nat.add_assoc]
theorem scan_end (b : List UInt8) (k at_ last : Nat) (h : b.length ≤ at_) : scan b k at_ last = ([], 0) := by
  cases k with
  | zero => rfl
  | succ k => rw [scan_succ, if_neg (by omega)]
theorem headF_mirt (r : List UInt8) : headF (mirt ++ r) = 0 := by
  unfold headF mirt
  rw [if_pos (by simp), if_neg (by simp), if_pos (by simp)]
theorem encL_length (l : List SecI) : 6 * l.length ≤ (encL l).length ∨ ∃ s ∈ l, ¬ small s := by
  by_cases h : ∃ s ∈ l, ¬ small s
  · exact .inr h
  · left
    induction l with
    | nil => simp
    | cons s l ih =>
      have e : encL (s :: l) = encS s ++ encL l := by simp [encL]
      have := ih fun ⟨x, hx, hs⟩ => h ⟨x, by simp [hx], hs⟩
      have hs : small s := Classical.byContradiction fun hc => h ⟨s, by simp, hc⟩
      have := put_length s.2.length (by unfold small at hs; omega)
      rw [e, List.length_append, encS_length, List.length_cons]
      omega
/-- Behind the beginning and well written sections. -/
theorem readF_app (l : List SecI) (r : List UInt8) (hok : okL 0 l = true) (hs : ∀ s ∈ l, small s) :
    readF (mirt ++ (encL l ++ r)) = (secsAt 5 l ++ (scan (mirt ++ (encL l ++ r)) ((mirt ++ (encL l ++ r)).length - l.length) (5 + (encL l).length) (lastI 0 l).toNat).1, (scan (mirt ++ (encL l ++ r)) ((mirt ++ (encL l ++ r)).length - l.length) (5 + (encL l).length) (lastI 0 l).toNat).2) := by
  have hl : 6 * l.length ≤ (encL l).length := (encL_length l).resolve_right fun ⟨x, hx, hn⟩ => hn (hs x hx)
  unfold readF
  rw [if_pos (headF_mirt _)]
  exact scan_app l mirt r 0 _ hok hs (by simp only [List.length_append]; omega)
theorem readF_enc (l : List SecI) (hok : okL 0 l = true) (hs : ∀ s ∈ l, small s) : readF (mirt ++ encL l) = (secsAt 5 l, 0) := by
  have h := readF_app l [] hok hs
  rw [List.append_nil] at h
  rw [h, scan_end _ _ _ _ (by simp [mirt]; omega)]
  simp
theorem secsAt_length (a : Nat) (l : List SecI) : (secsAt a l).length = l.length := by
  induction l generalizing a with
  | nil => rfl
  | cons s l ih => simp only [secsAt, List.length_cons, ih]
/-- The data of the sections at their offsets. -/
theorem secsAt_data : ∀ (l : List SecI) (pre r : List UInt8) (i : Nat) (h : i < l.length), ∃ s, (secsAt pre.length l)[i]? = some s ∧ s.id = l[i].1.toNat ∧ s.to = s.fr + l[i].2.length ∧ ((pre ++ (encL l ++ r)).drop s.fr).take (s.to - s.fr) = l[i].2 ∧ s.fr = pre.length + (encL (l.take i)).length + 1 + (put l[i].2.length).length
  | [], _, _, i, h => by simp at h
  | s :: l, pre, r, 0, h => by
    refine ⟨_, rfl, rfl, rfl, ?_, by simp [encL]⟩
    simp only [List.getElem_cons_zero]
    have e : pre ++ (encL (s :: l) ++ r) = (pre ++ (UInt8.ofNat s.1.toNat :: put s.2.length)) ++ (s.2 ++ (leN 4 (crcU 0#32 s.2) ++ (encL l ++ r))) := by simp [encL, encS, withCrc]
    rw [e, List.drop_left' (by simp; omega), List.take_left' (by omega)]
  | s :: l, pre, r, i + 1, h => by
    obtain ⟨x, h1, h2, h3, h4, h5⟩ := secsAt_data l (pre ++ encS s) r i (by simpa using h)
    refine ⟨x, ?_, h2, h3, ?_, ?_⟩
    · simp only [secsAt, List.getElem?_cons_succ]
      rw [List.length_append] at h1
      exact h1
    · rw [List.getElem_cons_succ, ← h4]
      simp [encL]
    · rw [h5]; simp only [List.length_append, List.take_succ_cons, List.getElem_cons_succ, encL, List.map_cons, List.flatten_cons]; omega
/-- One byte more. -/
theorem readF_more (l : List SecI) (c : UInt8) (hok : okL 0 l = true) (hs : ∀ s ∈ l, small s) : (readF (mirt ++ (encL l ++ [c]))).2 = if lastI 0 l < c.toNat ∧ c.toNat < 128 then 4 else 9 := by
  rw [readF_app l [c] hok hs]
  simp only
  obtain ⟨P, hP⟩ : ∃ P, P = mirt ++ encL l := ⟨_, rfl⟩
  have hb : mirt ++ (encL l ++ [c]) = P ++ [c] := by rw [hP]; simp
  have ha : 5 + (encL l).length = P.length := by rw [hP]; simp [mirt]; omega
  have hll : 6 * l.length ≤ (encL l).length := (encL_length l).resolve_right fun ⟨x, hx, hn⟩ => hn (hs x hx)
  have hr := lastI_range hok
  have hk : (mirt ++ (encL l ++ [c])).length - l.length = (P.length - l.length) + 1 := by rw [hb]; simp; omega
  rw [hk, ha, hb, scan_succ, if_pos (by simp)]
  have hnf : nextF (P ++ [c]) P.length (lastI 0 l).toNat = (⟨0, 0, 0⟩, if lastI 0 l < c.toNat ∧ c.toNat < 128 then 4 else 9) := by
    unfold nextF
    rw [show (P ++ [c]).getD P.length 0 = c from getD_at P c []]
    simp only
    by_cases hc : lastI 0 l < c.toNat ∧ c.toNat < 128
    · rw [if_neg (by omega), if_pos hc]
      have hg : getR (P ++ [c]) ((P.length + 1 : Nat) : Int) = (0, 0, 4) := by
        unfold getR
        rw [if_neg (by simp; omega), Int.toNat_natCast, List.drop_eq_nil_of_le (by simp)]
        rfl
      rw [hg]
      simp
    · rw [if_pos (by omega), if_neg hc]
  rw [hnf]
  by_cases hc : lastI 0 l < c.toNat ∧ c.toNat < 128
  · rw [if_pos hc]; simp
  · rw [if_neg hc]; simp
/-- One byte less. -/
theorem readF_less (l : List SecI) (hok : okL 0 l = true) (hs : ∀ s ∈ l, small s) : (readF ((mirt ++ encL l).take ((mirt ++ encL l).length - 1))).2 = 4 := by
  rcases List.eq_nil_or_concat l with rfl | ⟨l0, s, rfl⟩
  · rfl
  · rw [List.concat_eq_append] at *
    rw [okL_app] at hok
    simp only [Bool.and_eq_true, okL, decide_eq_true_eq, and_true] at hok
    have hs0 : ∀ x ∈ l0, small x := fun x hx => hs x (by simp [hx])
    have hss : small s := hs s (by simp)
    obtain ⟨q, hq⟩ : ∃ q, q = (withCrc s.2).take (s.2.length + 3) := ⟨_, rfl⟩
    have hql : q.length = s.2.length + 3 := by rw [hq, List.length_take, withCrc_length]; omega
    have hcut : (mirt ++ encL (l0 ++ [s])).take ((mirt ++ encL (l0 ++ [s])).length - 1) = mirt ++ (encL l0 ++ (UInt8.ofNat s.1.toNat :: (put s.2.length ++ q))) := by
      have e : mirt ++ encL (l0 ++ [s]) = (mirt ++ (encL l0 ++ (UInt8.ofNat s.1.toNat :: put s.2.length))) ++ withCrc s.2 := by rw [encL_app, encL_one]; simp [encS]
      rw [e, List.length_append, withCrc_length, List.take_append, List.take_of_length_le (by omega), hq]
      rw [show (mirt ++ (encL l0 ++ (UInt8.ofNat s.1.toNat :: put s.2.length))).length + (s.2.length + 4) - 1 - (mirt ++ (encL l0 ++ (UInt8.ofNat s.1.toNat :: put s.2.length))).length = s.2.length + 3 by omega]
      simp
    rw [hcut, readF_app l0 _ hok.1 hs0]
    simp only
    obtain ⟨P, hP⟩ : ∃ P, P = mirt ++ encL l0 := ⟨_, rfl⟩
    obtain ⟨R, hR⟩ : ∃ R, R = UInt8.ofNat s.1.toNat :: (put s.2.length ++ q) := ⟨_, rfl⟩
    have hb : mirt ++ (encL l0 ++ R) = P ++ R := by rw [hP]; simp
    have hll : 6 * l0.length ≤ (encL l0).length := (encL_length l0).resolve_right fun ⟨x, hx, hn⟩ => hn (hs0 x hx)
    have ha : 5 + (encL l0).length = P.length := by rw [hP]; simp [mirt]; omega
    have hr := lastI_range hok.1
    rw [← hR, hb, ha]
    have hlen : (P ++ R).length = P.length + 1 + (put s.2.length).length + s.2.length + 3 := by rw [hR]; simp only [List.length_append, List.length_cons, hql]; omega
    have hk : (P ++ R).length - l0.length = ((P ++ R).length - l0.length - 1) + 1 := by omega
    rw [hk, scan_succ, if_pos (by omega)]
    have hnf : nextF (P ++ R) P.length (lastI 0 l0).toNat = (⟨0, 0, 0⟩, 4) := by
      have hid : (UInt8.ofNat s.1.toNat).toNat = s.1.toNat := by rw [UInt8.toNat_ofNat']; omega
      unfold nextF
      rw [hlen, hR, getD_at, hid, getR_at P _ s.2.length q (by unfold small at hss; omega)]
      simp only
      rw [if_neg (by omega), if_neg (by simp), if_pos (by omega)]
    rw [hnf]
    simp
/-- A section whose data or checksum has changed. -/
theorem readF_bad (l0 l1 : List SecI) (s : SecI) (q : List UInt8) (hok : okL 0 (l0 ++ s :: l1) = true) (hs : ∀ x ∈ l0 ++ s :: l1, small x) (hq : q.length = s.2.length + 4) (hc : checkB q = false) :
    (readF (mirt ++ (encL l0 ++ (UInt8.ofNat s.1.toNat :: (put s.2.length ++ (q ++ encL l1)))))).2 = 10 := by
  rw [okL_app] at hok
  simp only [Bool.and_eq_true, okL, decide_eq_true_eq] at hok
  have hs0 : ∀ x ∈ l0, small x := fun x hx => hs x (by simp [hx])
  have hss : small s := hs s (by simp)
  rw [readF_app l0 _ hok.1 hs0]
  simp only
  obtain ⟨P, hP⟩ : ∃ P, P = mirt ++ encL l0 := ⟨_, rfl⟩
  obtain ⟨R, hR⟩ : ∃ R, R = UInt8.ofNat s.1.toNat :: (put s.2.length ++ (q ++ encL l1)) := ⟨_, rfl⟩
  have hb : mirt ++ (encL l0 ++ R) = P ++ R := by rw [hP]; simp
  have hll : 6 * l0.length ≤ (encL l0).length := (encL_length l0).resolve_right fun ⟨x, hx, hn⟩ => hn (hs0 x hx)
  have ha : 5 + (encL l0).length = P.length := by rw [hP]; simp [mirt]; omega
  have hr := lastI_range hok.1
  rw [← hR, hb, ha]
  have hlen : P.length + 1 ≤ (P ++ R).length := by rw [hR]; simp only [List.length_append, List.length_cons]; omega
  have hk : (P ++ R).length - l0.length = ((P ++ R).length - l0.length - 1) + 1 := by omega
  rw [hk, scan_succ, if_pos (by omega)]
  have hnf : nextF (P ++ R) P.length (lastI 0 l0).toNat = (⟨0, 0, 0⟩, 10) := by
    rw [hR, nextF_raw P q (encL l1) s.1 s.2.length _ (by omega) hok.2.1.2 hss hq, if_neg (by rw [hc]; simp)]
  rw [hnf]
  simp
/-- A burst in the data of a section is found. -/
theorem finds_data (d : List UInt8) (p f : Nat) (hp : p < 4294967296) (hf : f ≤ 8 * d.length) :
    checkB (x2 d (bytesN d.length (p * 2 ^ f)) ++ leN 4 (crcU 0#32 d)) = decide (d = x2 d (bytesN d.length (p * 2 ^ f))) := by
  obtain ⟨e, he⟩ : ∃ e, e = bytesN d.length (p * 2 ^ f) := ⟨_, rfl⟩
  have hel : e.length = d.length := by rw [he]; exact bytesN_length _ _
  have hxl : (x2 d e).length = d.length := x2_length _ _ hel.symm
  have h1 := (checkB_iff (withCrc d) (by rw [withCrc_length]; omega)).1 (checkB_withCrc d)
  have h2 := checkB_iff (x2 d e ++ leN 4 (crcU 0#32 d)) (by simp [leN_length])
  have h3 := crcS_x2 d e (~~~ 0#32) 0#32 hel.symm
  rw [BitVec.xor_zero] at h3
  have hve : val e = p * 2 ^ f % 2 ^ (8 * d.length) := by rw [he, val_bytesN]
  have h4 := x2_eq_iff d e hel.symm
  rw [← he]
  obtain ⟨c, hc⟩ : ∃ c, c = leN 4 (crcU 0#32 d) := ⟨_, rfl⟩
  have hcl : c.length = 4 := by rw [hc, leN_length]
  have h5 : (crcS (~~~ 0#32) (withCrc d)).toNat = Rn (8 * c.length) ((crcS (~~~ 0#32) d).toNat ^^^ val c) := by
    unfold withCrc
    rw [← hc, crcS_append, crcS_val]
  have h6 : (crcS (~~~ 0#32) (x2 d e ++ c)).toNat = Rn (8 * c.length) ((crcS (~~~ 0#32) d).toNat ^^^ (crcS 0#32 e).toNat ^^^ val c) := by
    rw [crcS_append, crcS_val, h3, BitVec.toNat_xor]
  have h7 : (crcS 0#32 e).toNat = Rn (8 * d.length) (val e) := by rw [crcS_val, hel]; simp
  rw [← hc] at h2
  rw [← hc, Bool.eq_iff_iff, decide_eq_true_iff, h2, h6]
  rw [h5] at h1
  have hb := burst (8 * d.length) f p hp hf
  rw [← hve] at hb
  constructor
  · intro h
    have hx : Rn (8 * c.length) (crcS 0#32 e).toNat = 0 := by
      have e1 : (crcS (~~~ 0#32) d).toNat ^^^ (crcS 0#32 e).toNat ^^^ val c = ((crcS (~~~ 0#32) d).toNat ^^^ val c) ^^^ (crcS 0#32 e).toNat := by
        rw [Nat.xor_assoc, Nat.xor_comm (crcS 0#32 e).toNat, ← Nat.xor_assoc]
      rw [e1, Rn_xor, h1] at h
      exact xor_cancel Kres _ _ (by rw [h, Nat.xor_zero])
    have hy := Rn_zero _ _ (crcS 0#32 e).isLt hx
    rw [h7] at hy
    exact (h4.2 (hb.1 hy)).symm
  · intro h
    rw [h7, hb.2 (h4.1 h.symm), Nat.xor_zero]
    exact h1
/-- What a section read stands for. -/
def dataOf (b : List UInt8) (s : Sec) : SecI := ((s.id : Int), (b.drop s.fr).take (s.to - s.fr))
theorem nextF_canon {b : List UInt8} {at_ last : Nat} (ha : at_ < b.length) (h : (nextF b at_ last).2 = 0) :
    b.drop at_ = encS (dataOf b (nextF b at_ last).1) ++ b.drop ((nextF b at_ last).1.to + 4) := by
  unfold nextF at h ⊢
  simp only at h ⊢
  split at h
  · simp at h
  · rename_i h1
    rw [if_neg h1]
    split at h
    · rename_i h2; exact absurd h h2
    · rename_i h2
      rw [if_neg h2]
      split at h
      · simp at h
      · rename_i h3
        rw [if_neg h3]
        split at h
        · rename_i h4
          rw [if_pos h4]
          obtain ⟨⟨n, k, e⟩, hg⟩ : ∃ x, getR b (at_ + 1 : Nat) = x := ⟨_, rfl⟩
          rw [hg] at h2 h3 h4 ⊢
          simp only at h2 h3 h4 ⊢
          have he : e = 0 := by omega
          subst he
          obtain ⟨r, hr, rfl, hn⟩ := getR_ok ⟨by omega, by omega⟩ hg
          rw [Int.toNat_natCast] at hr
          have ht : (((at_ + 1 : Nat) : Int) + (put n).length).toNat = at_ + 1 + (put n).length := by omega
          rw [ht] at h4 ⊢
          have hd : b.drop (at_ + 1 + (put n).length) = r := by rw [← List.drop_drop, hr, List.drop_left]
          have hrl : n + 4 ≤ r.length := by
            have := congrArg List.length hr
            rw [List.length_drop, List.length_append] at this
            omega
          rw [hd] at h4
          have hw : withCrc ((r.take (n + 4)).take n) = r.take (n + 4) := by
            unfold checkB at h4
            simp only [Bool.and_eq_true, decide_eq_true_eq, List.length_take] at h4
            have := h4.2
            rwa [show min (n + 4) r.length - 4 = n by omega] at this
          rw [List.take_take, show min n (n + 4) = n by omega] at hw
          have hdat : (b.drop (at_ + 1 + (put n).length)).take (at_ + 1 + (put n).length + n - (at_ + 1 + (put n).length)) = r.take n := by
            rw [hd, Nat.add_sub_cancel_left]
          have hc : b.drop at_ = b.getD at_ 0 :: b.drop (at_ + 1) := by
            rw [List.drop_eq_getElem_cons ha]; simp [List.getD, ha]
          simp only [encS, dataOf, hdat, Int.toNat_natCast, List.length_take, show min n r.length = n by omega, hw]
          rw [hc, hr]
          have hu : UInt8.ofNat (b.getD at_ 0).toNat = b.getD at_ 0 := by simp
          rw [hu, show at_ + 1 + (put n).length + n + 4 = (at_ + 1 + (put n).length) + (n + 4) by omega, ← List.drop_drop, hd]
          simp
        · simp at h
theorem scan_canon {b : List UInt8} : ∀ {k at_ last : Nat}, at_ ≤ b.length → b.length - at_ ≤ k → (scan b k at_ last).2 = 0 →
    b.drop at_ = encL ((scan b k at_ last).1.map (dataOf b)) ∧ okL last ((scan b k at_ last).1.map (dataOf b)) = true
  | 0, at_, last, ha, hk, _ => by
    rw [List.drop_eq_nil_of_le (by omega)]
    exact ⟨rfl, rfl⟩
  | k + 1, at_, last, ha, hk, h => by
    rw [scan_succ] at h ⊢
    by_cases hlt : at_ < b.length
    · rw [if_pos hlt] at h ⊢
      by_cases h0 : (nextF b at_ last).2 = 0
      · rw [if_pos h0] at h ⊢
        have ho := next_ok hlt h0
        obtain ⟨h1, h2⟩ := scan_canon (k := k) (at_ := (nextF b at_ last).1.to + 4) (last := (nextF b at_ last).1.id) ho.2.2.2.2 (by omega) h
        refine ⟨?_, ?_⟩
        · rw [nextF_canon hlt h0, h1]
          simp [encL]
        · simp only [List.map_cons, okL, Bool.and_eq_true, decide_eq_true_eq]
          refine ⟨⟨?_, ?_⟩, h2⟩
          · show (last : Int) < ((nextF b at_ last).1.id : Int); omega
          · show ((nextF b at_ last).1.id : Int) ≤ 127; omega
      · rw [if_neg h0] at h
        exact absurd h h0
    · rw [if_neg hlt, List.drop_eq_nil_of_le (by omega)]
      exact ⟨rfl, rfl⟩
theorem readF_canon {b : List UInt8} (h : (readF b).2 = 0) : b = mirt ++ encL ((readF b).1.map (dataOf b)) ∧ okL 0 ((readF b).1.map (dataOf b)) = true := by
  unfold readF at h ⊢
  by_cases h0 : headF b = 0
  · rw [if_pos h0] at h ⊢
    have hh : b.take 4 = [77, 73, 82, 84] ∧ b.getD 4 0 = 1 ∧ 5 ≤ b.length := by
      unfold headF at h0
      split at h0
      · rename_i h1
        split at h0
        · cases h0
        · rename_i h2
          split at h0
          · rename_i h3
            refine ⟨h1, h3, ?_⟩
            have := congrArg List.length h1
            rw [List.length_take] at this
            simp at this
            omega
          · cases h0
      · cases h0
    obtain ⟨h1, h2⟩ := scan_canon (b := b) (k := b.length) (at_ := 5) (last := 0) hh.2.2 (by omega) h
    refine ⟨?_, h2⟩
    rw [← h1]
    have : b.take 5 = mirt := by
      rw [show (5 : Nat) = 4 + 1 from rfl, List.take_add_one, hh.1, List.getElem?_eq_getElem (by omega)]
      have h4 := hh.2.1
      simp only [List.getD, List.getElem?_eq_getElem (show 4 < b.length by omega), Option.getD_some] at h4
      rw [h4]
      rfl
    rw [← this, List.take_append_drop]
  · rw [if_neg h0] at h
    exact absurd h h0
end Go.Proofs.Ytgaadmgcjnikkaa
/- package container: next. -/
namespace Go.Proofs.Ytgaadmgcjnikkaa
open Go.RowKit
set_option linter.unusedVariables false
set_option linter.unusedSimpArgs false
set_option maxRecDepth 100000 in
theorem next_N (b : List UInt8) (at_ last : Nat) (H : Heap) (hb : b.length ≤ 140737488351232) (ha : at_ < b.length) (hl : last ≤ 127) :
    Does Try.prog 85 [.seq 1 (b.map bD), .val (.int .i64 at_), .val (.int .i64 last)] H fun d H' => d = .agg (frD (nextF b at_ last)) ∧ H = H' := by
  obtain ⟨c, hc⟩ : ∃ c, c = b.getD at_ 0 := ⟨_, rfl⟩
  have hg : (b.map bD)[at_]? = some [.val (.int .u8 (c.toNat : Int))] := by
    rw [List.getElem?_map, List.getElem?_eq_getElem ha, hc]
    simp [bD, List.getD, ha]
  have hw1 : IntKind.i64.wrap (c.toNat : Int) = (c.toNat : Int) := wrap_i64_of (by have := c.toNat_lt; omega)
  have hw2 : IntKind.i64.wrap ((at_ : Int) + 1) = ((at_ + 1 : Nat) : Int) := by rw [wrap_i64_of (by omega)]; omega
  have hx : (at_ : Int).toNat = at_ := Int.toNat_natCast _
  have h00 : (0 : Int) ≤ (at_ : Int) := Int.natCast_nonneg _
  obtain ⟨⟨n, k, e⟩, hr⟩ : ∃ x, getR b (at_ + 1 : Nat) = x := ⟨_, rfl⟩
  obtain ⟨N, hN⟩ : ∃ N, N = nextF b at_ last := ⟨_, rfl⟩
  have hN2 := hN
  unfold nextF at hN2
  rw [← hc, hr] at hN2
  simp only at hN2
  rw [← hN]
  refine does_of _ _ Try.func85 rfl rfl Try.ntmps85 Try.results85 (by simp only [List.length_cons, List.length_nil]; omega) fun w0 Q hret => ?_
  (repeat (first | refine W_seq ?_ | refine W_block ?_ | refine W_skip ?_ | refine W_exit ?_ | refine W_ret ?_ | refine W_label ?_ | ((first | refine W_ops (by kernel_rfl) ?_ | refine W_if ?_ | refine WL_go (by kernel_rfl) (by kernel_rfl) ?_); simp (maxSteps := 4000000) only [vX, vB, vT, vZ, vcOps, isCall, mmV, lkV, muV, keyVal, keyVals, mget_nil, ↓selV_eq, stepOp, clV, biV, bnU, nilU, binV, bInt, bStr, bNilP, bNilS, bNilM, nilOp, D.nilPtr, D.nilSl, D.nilMap, isBoolTy, unV, cwV, cvV, elsP, partV, fieldsOf, fieldV, faV, iaV, ixV, ldC, ldV, stV, D.cells, putAt, bxV, alV, bldD, placesOf, allSized, bdV, bsV, rowsD, mkV, bdN, slV, newsP, TD.notInt, TD.agg, azV, clrV, cpyV, cpV, lenV, minV, maxV, ncV, exV, condV, retV, thenQ, blockQ, Value.oneCell', forall_const, true_implies, ne_eq, reduceCtorEq, false_implies, eq_self, if_true, if_false, ↓reduceIte, Nat.reduceEqDiff, Int.reduceLE, Int.reduceLT, Int.reduceNeg, Int.reduceToNat, Nat.reduceAdd, Nat.reduceMul, Nat.reduceLeDiff, Nat.reduceMod, Nat.reduceSub, Int.reduceEq, Int.reduceNe, Int.reduceAdd, Int.reduceSub, Int.reduceMul, implies_true, apV, hg, hw1, hw2, hx, h00])))
  intro r hr0
  have fin : ∀ x : HObj, H.le (H.upd r x) := fun x => Heap.le_new (Heap.le_refl _) hr0
  by_cases h1 : c.toNat ≤ last
  · rw [if_pos (Or.inl h1)] at hN2
    have q1 : ((c.toNat : Int) ≤ (last : Int)) = True := eq_true (by omega)
    (repeat (first | refine W_seq ?_ | refine W_block ?_ | refine W_skip ?_ | refine W_exit ?_ | refine W_ret ?_ | refine W_label ?_ | ((first | refine W_ops (by kernel_rfl) ?_ | refine W_if ?_ | refine WL_go (by kernel_rfl) (by kernel_rfl) ?_); simp (maxSteps := 4000000) only [vX, vB, vT, vZ, vcOps, isCall, mmV, lkV, muV, keyVal, keyVals, mget_nil, ↓selV_eq, stepOp, clV, biV, bnU, nilU, binV, bInt, bStr, bNilP, bNilS, bNilM, nilOp, D.nilPtr, D.nilSl, D.nilMap, isBoolTy, unV, cwV, cvV, elsP, partV, fieldsOf, fieldV, faV, iaV, ixV, ldC, ldV, stV, D.cells, putAt, bxV, alV, bldD, placesOf, allSized, bdV, bsV, rowsD, mkV, bdN, slV, newsP, TD.notInt, TD.agg, azV, clrV, cpyV, cpV, lenV, minV, maxV, ncV, exV, condV, retV, thenQ, blockQ, Value.oneCell', forall_const, true_implies, ne_eq, reduceCtorEq, false_implies, eq_self, if_true, if_false, ↓reduceIte, Nat.reduceEqDiff, Int.reduceLE, Int.reduceLT, Int.reduceNeg, Int.reduceToNat, Nat.reduceAdd, Nat.reduceMul, Nat.reduceLeDiff, Nat.reduceMod, Nat.reduceSub, Int.reduceEq, Int.reduceNe, Int.reduceAdd, Int.reduceSub, Int.reduceMul, implies_true, apV, hg, hw1, hw2, hx, h00, q1, ha])))
    refine hret _ _ (by first | exact .inr rfl | exact .inl rfl) (by first | rfl | assumption | (simp only [put_df, withH_df]; assumption)) ?_; simp (maxSteps := 4000000) only [vX, vB, vT, vZ, vcOps, isCall, mmV, lkV, muV, keyVal, keyVals, mget_nil, ↓selV_eq, stepOp, clV, biV, bnU, nilU, binV, bInt, bStr, bNilP, bNilS, bNilM, nilOp, D.nilPtr, D.nilSl, D.nilMap, isBoolTy, unV, cwV, cvV, elsP, partV, fieldsOf, fieldV, faV, iaV, ixV, ldC, ldV, stV, D.cells, putAt, bxV, alV, bldD, placesOf, allSized, bdV, bsV, rowsD, mkV, bdN, slV, newsP, TD.notInt, TD.agg, azV, clrV, cpyV, cpV, lenV, minV, maxV, ncV, exV, condV, retV, thenQ, blockQ, Value.oneCell', forall_const, true_implies, ne_eq, reduceCtorEq, false_implies, eq_self, if_true, if_false, ↓reduceIte, Nat.reduceEqDiff, Int.reduceLE, Int.reduceLT, Int.reduceNeg, Int.reduceToNat, Nat.reduceAdd, Nat.reduceMul, Nat.reduceLeDiff, Nat.reduceMod, Nat.reduceSub, Int.reduceEq, Int.reduceNe, Int.reduceAdd, Int.reduceSub, Int.reduceMul, implies_true, apV, hN2, frD, i64]
    exact ⟨_, fin _, rfl⟩
  have q1 : ((c.toNat : Int) ≤ (last : Int)) = False := eq_false (by omega)
  by_cases h2 : 127 < c.toNat
  · rw [if_pos (Or.inr h2)] at hN2
    have q2 : ((127 : Int) < (c.toNat : Int)) = True := eq_true (by omega)
    (repeat (first | refine W_seq ?_ | refine W_block ?_ | refine W_skip ?_ | refine W_exit ?_ | refine W_ret ?_ | refine W_label ?_ | ((first | refine W_ops (by kernel_rfl) ?_ | refine W_if ?_ | refine WL_go (by kernel_rfl) (by kernel_rfl) ?_); simp (maxSteps := 4000000) only [vX, vB, vT, vZ, vcOps, isCall, mmV, lkV, muV, keyVal, keyVals, mget_nil, ↓selV_eq, stepOp, clV, biV, bnU, nilU, binV, bInt, bStr, bNilP, bNilS, bNilM, nilOp, D.nilPtr, D.nilSl, D.nilMap, isBoolTy, unV, cwV, cvV, elsP, partV, fieldsOf, fieldV, faV, iaV, ixV, ldC, ldV, stV, D.cells, putAt, bxV, alV, bldD, placesOf, allSized, bdV, bsV, rowsD, mkV, bdN, slV, newsP, TD.notInt, TD.agg, azV, clrV, cpyV, cpV, lenV, minV, maxV, ncV, exV, condV, retV, thenQ, blockQ, Value.oneCell', forall_const, true_implies, ne_eq, reduceCtorEq, false_implies, eq_self, if_true, if_false, ↓reduceIte, Nat.reduceEqDiff, Int.reduceLE, Int.reduceLT, Int.reduceNeg, Int.reduceToNat, Nat.reduceAdd, Nat.reduceMul, Nat.reduceLeDiff, Nat.reduceMod, Nat.reduceSub, Int.reduceEq, Int.reduceNe, Int.reduceAdd, Int.reduceSub, Int.reduceMul, implies_true, apV, hg, hw1, hw2, hx, h00, q1, q2, ha])))
    refine hret _ _ (by first | exact .inr rfl | exact .inl rfl) (by first | rfl | assumption | (simp only [put_df, withH_df]; assumption)) ?_; simp (maxSteps := 4000000) only [vX, vB, vT, vZ, vcOps, isCall, mmV, lkV, muV, keyVal, keyVals, mget_nil, ↓selV_eq, stepOp, clV, biV, bnU, nilU, binV, bInt, bStr, bNilP, bNilS, bNilM, nilOp, D.nilPtr, D.nilSl, D.nilMap, isBoolTy, unV, cwV, cvV, elsP, partV, fieldsOf, fieldV, faV, iaV, ixV, ldC, ldV, stV, D.cells, putAt, bxV, alV, bldD, placesOf, allSized, bdV, bsV, rowsD, mkV, bdN, slV, newsP, TD.notInt, TD.agg, azV, clrV, cpyV, cpV, lenV, minV, maxV, ncV, exV, condV, retV, thenQ, blockQ, Value.oneCell', forall_const, true_implies, ne_eq, reduceCtorEq, false_implies, eq_self, if_true, if_false, ↓reduceIte, Nat.reduceEqDiff, Int.reduceLE, Int.reduceLT, Int.reduceNeg, Int.reduceToNat, Nat.reduceAdd, Nat.reduceMul, Nat.reduceLeDiff, Nat.reduceMod, Nat.reduceSub, Int.reduceEq, Int.reduceNe, Int.reduceAdd, Int.reduceSub, Int.reduceMul, implies_true, apV, hN2, frD, i64]
    exact ⟨_, fin _, rfl⟩
  have q2 : ((127 : Int) < (c.toNat : Int)) = False := eq_false (by omega)
  rw [if_neg (by omega)] at hN2
  (repeat (first | refine W_seq ?_ | refine W_block ?_ | refine W_skip ?_ | refine W_exit ?_ | refine W_ret ?_ | refine W_label ?_ | ((first | refine W_ops (by kernel_rfl) ?_ | refine W_if ?_ | refine WL_go (by kernel_rfl) (by kernel_rfl) ?_); simp (maxSteps := 4000000) only [vX, vB, vT, vZ, vcOps, isCall, mmV, lkV, muV, keyVal, keyVals, mget_nil, ↓selV_eq, stepOp, clV, biV, bnU, nilU, binV, bInt, bStr, bNilP, bNilS, bNilM, nilOp, D.nilPtr, D.nilSl, D.nilMap, isBoolTy, unV, cwV, cvV, elsP, partV, fieldsOf, fieldV, faV, iaV, ixV, ldC, ldV, stV, D.cells, putAt, bxV, alV, bldD, placesOf, allSized, bdV, bsV, rowsD, mkV, bdN, slV, newsP, TD.notInt, TD.agg, azV, clrV, cpyV, cpV, lenV, minV, maxV, ncV, exV, condV, retV, thenQ, blockQ, Value.oneCell', forall_const, true_implies, ne_eq, reduceCtorEq, false_implies, eq_self, if_true, if_false, ↓reduceIte, Nat.reduceEqDiff, Int.reduceLE, Int.reduceLT, Int.reduceNeg, Int.reduceToNat, Nat.reduceAdd, Nat.reduceMul, Nat.reduceLeDiff, Nat.reduceMod, Nat.reduceSub, Int.reduceEq, Int.reduceNe, Int.reduceAdd, Int.reduceSub, Int.reduceMul, implies_true, apV, hg, hw1, hw2, hx, h00, q1, q2, ha])))
  refine (get_at (l := b) (a := (at_ + 1 : Nat)) (n := n) (k := k) (e := e) (by simp only [elsP, vB, vT, vZ, vcOps, isCall, mmV, lkV, muV, keyVal, keyVals, mget_nil, ↓selV_eq, stepOp, clV, biV, bnU, nilU, binV, bInt, bStr, bNilP, bNilS, bNilM, nilOp, D.nilPtr, D.nilSl, D.nilMap, isBoolTy, unV, cwV, cvV, elsP, partV, fieldsOf, fieldV, faV, iaV, ixV, ldC, ldV, stV, D.cells, putAt, bxV, alV, bldD, placesOf, allSized, bdV, bsV, rowsD, mkV, bdN, slV, newsP, TD.notInt, TD.agg, azV, clrV, cpyV, cpV, lenV, minV, maxV, ncV, exV, condV, retV, thenQ, blockQ, Value.oneCell', forall_const, true_implies, ne_eq, reduceCtorEq, false_implies, eq_self, if_true, if_false, ↓reduceIte, Nat.reduceEqDiff, Int.reduceLE, Int.reduceLT, Int.reduceNeg, Int.reduceToNat, Nat.reduceAdd, Nat.reduceMul, Nat.reduceLeDiff, Nat.reduceMod, Nat.reduceSub, Int.reduceEq, Int.reduceNe, Int.reduceAdd, Int.reduceSub, Int.reduceMul, implies_true, apV]; first | done | rfl | (repeat (first | (refine ⟨?_, ?_⟩) | rfl | trivial | omega))) (by omega) hr).mono ?_
  rintro d _ ⟨rfl, rfl⟩
  by_cases h3 : e = 0
  case neg =>
    rw [if_pos h3] at hN2
    have q3 : ((e : Int) = 0) = False := eq_false (by omega)
    (repeat (first | refine W_seq ?_ | refine W_block ?_ | refine W_skip ?_ | refine W_exit ?_ | refine W_ret ?_ | refine W_label ?_ | ((first | refine W_ops (by kernel_rfl) ?_ | refine W_if ?_ | refine WL_go (by kernel_rfl) (by kernel_rfl) ?_); simp (maxSteps := 4000000) only [vX, vB, vT, vZ, vcOps, isCall, mmV, lkV, muV, keyVal, keyVals, mget_nil, ↓selV_eq, stepOp, clV, biV, bnU, nilU, binV, bInt, bStr, bNilP, bNilS, bNilM, nilOp, D.nilPtr, D.nilSl, D.nilMap, isBoolTy, unV, cwV, cvV, elsP, partV, fieldsOf, fieldV, faV, iaV, ixV, ldC, ldV, stV, D.cells, putAt, bxV, alV, bldD, placesOf, allSized, bdV, bsV, rowsD, mkV, bdN, slV, newsP, TD.notInt, TD.agg, azV, clrV, cpyV, cpV, lenV, minV, maxV, ncV, exV, condV, retV, thenQ, blockQ, Value.oneCell', forall_const, true_implies, ne_eq, reduceCtorEq, false_implies, eq_self, if_true, if_false, ↓reduceIte, Nat.reduceEqDiff, Int.reduceLE, Int.reduceLT, Int.reduceNeg, Int.reduceToNat, Nat.reduceAdd, Nat.reduceMul, Nat.reduceLeDiff, Nat.reduceMod, Nat.reduceSub, Int.reduceEq, Int.reduceNe, Int.reduceAdd, Int.reduceSub, Int.reduceMul, implies_true, apV, q3])))
    refine hret _ _ (by first | exact .inr rfl | exact .inl rfl) (by first | rfl | assumption | (simp only [put_df, withH_df]; assumption)) ?_; simp (maxSteps := 4000000) only [vX, vB, vT, vZ, vcOps, isCall, mmV, lkV, muV, keyVal, keyVals, mget_nil, ↓selV_eq, stepOp, clV, biV, bnU, nilU, binV, bInt, bStr, bNilP, bNilS, bNilM, nilOp, D.nilPtr, D.nilSl, D.nilMap, isBoolTy, unV, cwV, cvV, elsP, partV, fieldsOf, fieldV, faV, iaV, ixV, ldC, ldV, stV, D.cells, putAt, bxV, alV, bldD, placesOf, allSized, bdV, bsV, rowsD, mkV, bdN, slV, newsP, TD.notInt, TD.agg, azV, clrV, cpyV, cpV, lenV, minV, maxV, ncV, exV, condV, retV, thenQ, blockQ, Value.oneCell', forall_const, true_implies, ne_eq, reduceCtorEq, false_implies, eq_self, if_true, if_false, ↓reduceIte, Nat.reduceEqDiff, Int.reduceLE, Int.reduceLT, Int.reduceNeg, Int.reduceToNat, Nat.reduceAdd, Nat.reduceMul, Nat.reduceLeDiff, Nat.reduceMod, Nat.reduceSub, Int.reduceEq, Int.reduceNe, Int.reduceAdd, Int.reduceSub, Int.reduceMul, implies_true, apV, hN2, frD, i64]
    exact ⟨_, fin _, rfl⟩
  obtain ⟨t1, t2, t3⟩ := getR_lt (b := b) ⟨by omega, by omega⟩ hr h3
  subst h3
  rw [if_neg (by simp)] at hN2
  have hw3 : IntKind.i64.wrap ((b.length : Int) - k) = (b.length : Int) - k := wrap_i64_of (by omega)
  have hw4 : IntKind.i64.wrap ((b.length : Int) - k - 4) = (b.length : Int) - k - 4 := wrap_i64_of (by omega)
  by_cases h4 : (b.length : Int) - k - 4 < 0
  · rw [if_pos (Or.inl h4)] at hN2
    have q4 : ((b.length : Int) - k - 4 < 0) = True := eq_true h4
    (repeat (first | refine W_seq ?_ | refine W_block ?_ | refine W_skip ?_ | refine W_exit ?_ | refine W_ret ?_ | refine W_label ?_ | ((first | refine W_ops (by kernel_rfl) ?_ | refine W_if ?_ | refine WL_go (by kernel_rfl) (by kernel_rfl) ?_); simp (maxSteps := 4000000) only [vX, vB, vT, vZ, vcOps, isCall, mmV, lkV, muV, keyVal, keyVals, mget_nil, ↓selV_eq, stepOp, clV, biV, bnU, nilU, binV, bInt, bStr, bNilP, bNilS, bNilM, nilOp, D.nilPtr, D.nilSl, D.nilMap, isBoolTy, unV, cwV, cvV, elsP, partV, fieldsOf, fieldV, faV, iaV, ixV, ldC, ldV, stV, D.cells, putAt, bxV, alV, bldD, placesOf, allSized, bdV, bsV, rowsD, mkV, bdN, slV, newsP, TD.notInt, TD.agg, azV, clrV, cpyV, cpV, lenV, minV, maxV, ncV, exV, condV, retV, thenQ, blockQ, Value.oneCell', forall_const, true_implies, ne_eq, reduceCtorEq, false_implies, eq_self, if_true, if_false, ↓reduceIte, Nat.reduceEqDiff, Int.reduceLE, Int.reduceLT, Int.reduceNeg, Int.reduceToNat, Nat.reduceAdd, Nat.reduceMul, Nat.reduceLeDiff, Nat.reduceMod, Nat.reduceSub, Int.reduceEq, Int.reduceNe, Int.reduceAdd, Int.reduceSub, Int.reduceMul, implies_true, apV, hw3, hw4, q4, List.length_map])))
    refine hret _ _ (by first | exact .inr rfl | exact .inl rfl) (by first | rfl | assumption | (simp only [put_df, withH_df]; assumption)) ?_; simp (maxSteps := 4000000) only [vX, vB, vT, vZ, vcOps, isCall, mmV, lkV, muV, keyVal, keyVals, mget_nil, ↓selV_eq, stepOp, clV, biV, bnU, nilU, binV, bInt, bStr, bNilP, bNilS, bNilM, nilOp, D.nilPtr, D.nilSl, D.nilMap, isBoolTy, unV, cwV, cvV, elsP, partV, fieldsOf, fieldV, faV, iaV, ixV, ldC, ldV, stV, D.cells, putAt, bxV, alV, bldD, placesOf, allSized, bdV, bsV, rowsD, mkV, bdN, slV, newsP, TD.notInt, TD.agg, azV, clrV, cpyV, cpV, lenV, minV, maxV, ncV, exV, condV, retV, thenQ, blockQ, Value.oneCell', forall_const, true_implies, ne_eq, reduceCtorEq, false_implies, eq_self, if_true, if_false, ↓reduceIte, Nat.reduceEqDiff, Int.reduceLE, Int.reduceLT, Int.reduceNeg, Int.reduceToNat, Nat.reduceAdd, Nat.reduceMul, Nat.reduceLeDiff, Nat.reduceMod, Nat.reduceSub, Int.reduceEq, Int.reduceNe, Int.reduceAdd, Int.reduceSub, Int.reduceMul, implies_true, apV, hN2, frD, i64]
    exact ⟨_, fin _, rfl⟩
  have q4 : ((b.length : Int) - k - 4 < 0) = False := eq_false h4
  have hw5 : IntKind.u64.wrap ((b.length : Int) - k - 4) = (b.length : Int) - k - 4 := wrap_u64_of (by omega)
  by_cases h5 : (b.length : Int) - k - 4 < n
  · rw [if_pos (Or.inr h5)] at hN2
    have q5 : ((b.length : Int) - k - 4 < (n : Int)) = True := eq_true h5
    (repeat (first | refine W_seq ?_ | refine W_block ?_ | refine W_skip ?_ | refine W_exit ?_ | refine W_ret ?_ | refine W_label ?_ | ((first | refine W_ops (by kernel_rfl) ?_ | refine W_if ?_ | refine WL_go (by kernel_rfl) (by kernel_rfl) ?_); simp (maxSteps := 4000000) only [vX, vB, vT, vZ, vcOps, isCall, mmV, lkV, muV, keyVal, keyVals, mget_nil, ↓selV_eq, stepOp, clV, biV, bnU, nilU, binV, bInt, bStr, bNilP, bNilS, bNilM, nilOp, D.nilPtr, D.nilSl, D.nilMap, isBoolTy, unV, cwV, cvV, elsP, partV, fieldsOf, fieldV, faV, iaV, ixV, ldC, ldV, stV, D.cells, putAt, bxV, alV, bldD, placesOf, allSized, bdV, bsV, rowsD, mkV, bdN, slV, newsP, TD.notInt, TD.agg, azV, clrV, cpyV, cpV, lenV, minV, maxV, ncV, exV, condV, retV, thenQ, blockQ, Value.oneCell', forall_const, true_implies, ne_eq, reduceCtorEq, false_implies, eq_self, if_true, if_false, ↓reduceIte, Nat.reduceEqDiff, Int.reduceLE, Int.reduceLT, Int.reduceNeg, Int.reduceToNat, Nat.reduceAdd, Nat.reduceMul, Nat.reduceLeDiff, Nat.reduceMod, Nat.reduceSub, Int.reduceEq, Int.reduceNe, Int.reduceAdd, Int.reduceSub, Int.reduceMul, implies_true, apV, hw3, hw4, hw5, q4, q5, List.length_map])))
    refine hret _ _ (by first | exact .inr rfl | exact .inl rfl) (by first | rfl | assumption | (simp only [put_df, withH_df]; assumption)) ?_; simp (maxSteps := 4000000) only [vX, vB, vT, vZ, vcOps, isCall, mmV, lkV, muV, keyVal, keyVals, mget_nil, ↓selV_eq, stepOp, clV, biV, bnU, nilU, binV, bInt, bStr, bNilP, bNilS, bNilM, nilOp, D.nilPtr, D.nilSl, D.nilMap, isBoolTy, unV, cwV, cvV, elsP, partV, fieldsOf, fieldV, faV, iaV, ixV, ldC, ldV, stV, D.cells, putAt, bxV, alV, bldD, placesOf, allSized, bdV, bsV, rowsD, mkV, bdN, slV, newsP, TD.notInt, TD.agg, azV, clrV, cpyV, cpV, lenV, minV, maxV, ncV, exV, condV, retV, thenQ, blockQ, Value.oneCell', forall_const, true_implies, ne_eq, reduceCtorEq, false_implies, eq_self, if_true, if_false, ↓reduceIte, Nat.reduceEqDiff, Int.reduceLE, Int.reduceLT, Int.reduceNeg, Int.reduceToNat, Nat.reduceAdd, Nat.reduceMul, Nat.reduceLeDiff, Nat.reduceMod, Nat.reduceSub, Int.reduceEq, Int.reduceNe, Int.reduceAdd, Int.reduceSub, Int.reduceMul, implies_true, apV, hN2, frD, i64]
    exact ⟨_, fin _, rfl⟩
  have q5 : ((b.length : Int) - k - 4 < (n : Int)) = False := eq_false h5
  rw [if_neg (by omega)] at hN2
  obtain ⟨K, rfl⟩ : ∃ K : Nat, k = (K : Int) := ⟨k.toNat, by omega⟩
  have hw6 : IntKind.i64.wrap (n : Int) = (n : Int) := wrap_i64_of (by omega)
  have hw7 : IntKind.i64.wrap ((K : Int) + (n : Int)) = ((K + n : Nat) : Int) := by rw [wrap_i64_of (by omega)]; omega
  have hw8 : IntKind.i64.wrap (((K + n : Nat) : Int) + 4) = ((K + n + 4 : Nat) : Int) := by rw [wrap_i64_of (by omega)]; omega
  (repeat (first | refine W_seq ?_ | refine W_block ?_ | refine W_skip ?_ | refine W_exit ?_ | refine W_ret ?_ | refine W_label ?_ | ((first | refine W_ops (by kernel_rfl) ?_ | refine W_if ?_ | refine WL_go (by kernel_rfl) (by kernel_rfl) ?_); simp (maxSteps := 4000000) only [vX, vB, vT, vZ, vcOps, isCall, mmV, lkV, muV, keyVal, keyVals, mget_nil, ↓selV_eq, stepOp, clV, biV, bnU, nilU, binV, bInt, bStr, bNilP, bNilS, bNilM, nilOp, D.nilPtr, D.nilSl, D.nilMap, isBoolTy, unV, cwV, cvV, elsP, partV, fieldsOf, fieldV, faV, iaV, ixV, ldC, ldV, stV, D.cells, putAt, bxV, alV, bldD, placesOf, allSized, bdV, bsV, rowsD, mkV, bdN, slV, newsP, TD.notInt, TD.agg, azV, clrV, cpyV, cpV, lenV, minV, maxV, ncV, exV, condV, retV, thenQ, blockQ, Value.oneCell', forall_const, true_implies, ne_eq, reduceCtorEq, false_implies, eq_self, if_true, if_false, ↓reduceIte, Nat.reduceEqDiff, Int.reduceLE, Int.reduceLT, Int.reduceNeg, Int.reduceToNat, Nat.reduceAdd, Nat.reduceMul, Nat.reduceLeDiff, Nat.reduceMod, Nat.reduceSub, Int.reduceEq, Int.reduceNe, Int.reduceAdd, Int.reduceSub, Int.reduceMul, implies_true, apV, hw3, hw4, hw5, hw6, hw7, hw8, q4, q5, List.length_map])))
  have hcut : List.drop K (List.take (K + n + 4) (List.map bD b)) = ((b.drop K).take (n + 4)).map bD := by
    rw [Nat.add_assoc, List.drop_take, Nat.add_sub_cancel_left, List.map_take, List.map_drop]
  rw [Int.toNat_natCast] at hN2
  rw [hcut]
  refine ⟨by omega, by omega, by omega, (chk_at _ _ (by simp only [List.length_take, List.length_drop]; omega)).mono ?_⟩
  rintro d _ ⟨rfl, rfl⟩
  cases hck : checkB (List.take (n + 4) (List.drop K b)) with
  | false =>
    rw [hck, if_neg (by simp)] at hN2
    (repeat (first | refine W_seq ?_ | refine W_block ?_ | refine W_skip ?_ | refine W_exit ?_ | refine W_ret ?_ | refine W_label ?_ | ((first | refine W_ops (by kernel_rfl) ?_ | refine W_if ?_ | refine WL_go (by kernel_rfl) (by kernel_rfl) ?_); simp (maxSteps := 4000000) only [vX, vB, vT, vZ, vcOps, isCall, mmV, lkV, muV, keyVal, keyVals, mget_nil, ↓selV_eq, stepOp, clV, biV, bnU, nilU, binV, bInt, bStr, bNilP, bNilS, bNilM, nilOp, D.nilPtr, D.nilSl, D.nilMap, isBoolTy, unV, cwV, cvV, elsP, partV, fieldsOf, fieldV, faV, iaV, ixV, ldC, ldV, stV, D.cells, putAt, bxV, alV, bldD, placesOf, allSized, bdV, bsV, rowsD, mkV, bdN, slV, newsP, TD.notInt, TD.agg, azV, clrV, cpyV, cpV, lenV, minV, maxV, ncV, exV, condV, retV, thenQ, blockQ, Value.oneCell', forall_const, true_implies, ne_eq, reduceCtorEq, false_implies, eq_self, if_true, if_false, ↓reduceIte, Nat.reduceEqDiff, Int.reduceLE, Int.reduceLT, Int.reduceNeg, Int.reduceToNat, Nat.reduceAdd, Nat.reduceMul, Nat.reduceLeDiff, Nat.reduceMod, Nat.reduceSub, Int.reduceEq, Int.reduceNe, Int.reduceAdd, Int.reduceSub, Int.reduceMul, implies_true, apV, hck])))
    refine hret _ _ (by first | exact .inr rfl | exact .inl rfl) (by first | rfl | assumption | (simp only [put_df, withH_df]; assumption)) ?_; simp (maxSteps := 4000000) only [vX, vB, vT, vZ, vcOps, isCall, mmV, lkV, muV, keyVal, keyVals, mget_nil, ↓selV_eq, stepOp, clV, biV, bnU, nilU, binV, bInt, bStr, bNilP, bNilS, bNilM, nilOp, D.nilPtr, D.nilSl, D.nilMap, isBoolTy, unV, cwV, cvV, elsP, partV, fieldsOf, fieldV, faV, iaV, ixV, ldC, ldV, stV, D.cells, putAt, bxV, alV, bldD, placesOf, allSized, bdV, bsV, rowsD, mkV, bdN, slV, newsP, TD.notInt, TD.agg, azV, clrV, cpyV, cpV, lenV, minV, maxV, ncV, exV, condV, retV, thenQ, blockQ, Value.oneCell', forall_const, true_implies, ne_eq, reduceCtorEq, false_implies, eq_self, if_true, if_false, ↓reduceIte, Nat.reduceEqDiff, Int.reduceLE, Int.reduceLT, Int.reduceNeg, Int.reduceToNat, Nat.reduceAdd, Nat.reduceMul, Nat.reduceLeDiff, Nat.reduceMod, Nat.reduceSub, Int.reduceEq, Int.reduceNe, Int.reduceAdd, Int.reduceSub, Int.reduceMul, implies_true, apV, hN2, frD, i64]
    exact ⟨_, fin _, rfl⟩
  | true =>
    rw [hck, if_pos rfl] at hN2
    (repeat (first | refine W_seq ?_ | refine W_block ?_ | refine W_skip ?_ | refine W_exit ?_ | refine W_ret ?_ | refine W_label ?_ | ((first | refine W_ops (by kernel_rfl) ?_ | refine W_if ?_ | refine WL_go (by kernel_rfl) (by kernel_rfl) ?_); simp (maxSteps := 4000000) only [vX, vB, vT, vZ, vcOps, isCall, mmV, lkV, muV, keyVal, keyVals, mget_nil, ↓selV_eq, stepOp, clV, biV, bnU, nilU, binV, bInt, bStr, bNilP, bNilS, bNilM, nilOp, D.nilPtr, D.nilSl, D.nilMap, isBoolTy, unV, cwV, cvV, elsP, partV, fieldsOf, fieldV, faV, iaV, ixV, ldC, ldV, stV, D.cells, putAt, bxV, alV, bldD, placesOf, allSized, bdV, bsV, rowsD, mkV, bdN, slV, newsP, TD.notInt, TD.agg, azV, clrV, cpyV, cpV, lenV, minV, maxV, ncV, exV, condV, retV, thenQ, blockQ, Value.oneCell', forall_const, true_implies, ne_eq, reduceCtorEq, false_implies, eq_self, if_true, if_false, ↓reduceIte, Nat.reduceEqDiff, Int.reduceLE, Int.reduceLT, Int.reduceNeg, Int.reduceToNat, Nat.reduceAdd, Nat.reduceMul, Nat.reduceLeDiff, Nat.reduceMod, Nat.reduceSub, Int.reduceEq, Int.reduceNe, Int.reduceAdd, Int.reduceSub, Int.reduceMul, implies_true, apV, hck])))
    refine hret _ _ (by first | exact .inr rfl | exact .inl rfl) (by first | rfl | assumption | (simp only [put_df, withH_df]; assumption)) ?_; simp (maxSteps := 4000000) only [vX, vB, vT, vZ, vcOps, isCall, mmV, lkV, muV, keyVal, keyVals, mget_nil, ↓selV_eq, stepOp, clV, biV, bnU, nilU, binV, bInt, bStr, bNilP, bNilS, bNilM, nilOp, D.nilPtr, D.nilSl, D.nilMap, isBoolTy, unV, cwV, cvV, elsP, partV, fieldsOf, fieldV, faV, iaV, ixV, ldC, ldV, stV, D.cells, putAt, bxV, alV, bldD, placesOf, allSized, bdV, bsV, rowsD, mkV, bdN, slV, newsP, TD.notInt, TD.agg, azV, clrV, cpyV, cpV, lenV, minV, maxV, ncV, exV, condV, retV, thenQ, blockQ, Value.oneCell', forall_const, true_implies, ne_eq, reduceCtorEq, false_implies, eq_self, if_true, if_false, ↓reduceIte, Nat.reduceEqDiff, Int.reduceLE, Int.reduceLT, Int.reduceNeg, Int.reduceToNat, Nat.reduceAdd, Nat.reduceMul, Nat.reduceLeDiff, Nat.reduceMod, Nat.reduceSub, Int.reduceEq, Int.reduceNe, Int.reduceAdd, Int.reduceSub, Int.reduceMul, implies_true, apV, hN2, frD, i64]
    exact ⟨_, fin _, rfl⟩
end Go.Proofs.Ytgaadmgcjnikkaa
/- package container: frames. -/
namespace Go.Proofs.Ytgaadmgcjnikkaa
open Go.RowKit
set_option linter.unusedVariables false
set_option linter.unusedSimpArgs false
theorem bstr_take (l : List UInt8) (n : Nat) : (bstr l).extract 0 n = bstr (l.take n) := by
  apply ByteArray.ext
  rw [ByteArray.data_extract]
  apply Array.ext'
  simp [bstr]
set_option maxRecDepth 100000 in
theorem lpre_N (l p : List UInt8) (H : Heap) (hl : l.length ≤ 140737488351232) (hp : p.length ≤ 1000) : Does Try.prog 90 [.val (.string (bstr l)), .val (.string (bstr p))] H fun d H' => d = .val (.bool (decide (l.take p.length = p))) ∧ H = H' := by
  have hs := bstr_size l
  have hs2 := bstr_size p
  refine does_of _ _ Try.func90 rfl rfl Try.ntmps90 Try.results90 (by simp only [List.length_cons, List.length_nil]; omega) fun w0 Q hret => ?_
  by_cases h : p.length ≤ l.length
  · have q : ((p.length : Int) ≤ (l.length : Int)) = True := eq_true (by omega)
    have q0 : (0 : Int) ≤ (p.length : Int) := Int.natCast_nonneg _
    (repeat (first | refine W_seq ?_ | refine W_block ?_ | refine W_skip ?_ | refine W_exit ?_ | refine W_ret ?_ | refine W_label ?_ | ((first | refine W_ops (by kernel_rfl) ?_ | refine W_if ?_ | refine WL_go (by kernel_rfl) (by kernel_rfl) ?_); simp (maxSteps := 4000000) only [vX, vB, vT, vZ, vcOps, isCall, mmV, lkV, muV, keyVal, keyVals, mget_nil, ↓selV_eq, stepOp, clV, biV, bnU, nilU, binV, bInt, bStr, bNilP, bNilS, bNilM, nilOp, D.nilPtr, D.nilSl, D.nilMap, isBoolTy, unV, cwV, cvV, elsP, partV, fieldsOf, fieldV, faV, iaV, ixV, ldC, ldV, stV, D.cells, putAt, bxV, alV, bldD, placesOf, allSized, bdV, bsV, rowsD, mkV, bdN, slV, newsP, TD.notInt, TD.agg, azV, clrV, cpyV, cpV, lenV, minV, maxV, ncV, exV, condV, retV, thenQ, blockQ, Value.oneCell', forall_const, true_implies, ne_eq, reduceCtorEq, false_implies, eq_self, if_true, if_false, ↓reduceIte, Nat.reduceEqDiff, Int.reduceLE, Int.reduceLT, Int.reduceNeg, Int.reduceToNat, Nat.reduceAdd, Nat.reduceMul, Nat.reduceLeDiff, Nat.reduceMod, Nat.reduceSub, Int.reduceEq, Int.reduceNe, Int.reduceAdd, Int.reduceSub, Int.reduceMul, implies_true, apV, hs, hs2, q, q0, bstr_take, bstr_toL, Int.toNat_natCast])))
    refine hret _ _ (by first | exact .inr rfl | exact .inl rfl) (by first | rfl | assumption | (simp only [put_df, withH_df]; assumption)) ?_; simp (maxSteps := 4000000) only [vX, vB, vT, vZ, vcOps, isCall, mmV, lkV, muV, keyVal, keyVals, mget_nil, ↓selV_eq, stepOp, clV, biV, bnU, nilU, binV, bInt, bStr, bNilP, bNilS, bNilM, nilOp, D.nilPtr, D.nilSl, D.nilMap, isBoolTy, unV, cwV, cvV, elsP, partV, fieldsOf, fieldV, faV, iaV, ixV, ldC, ldV, stV, D.cells, putAt, bxV, alV, bldD, placesOf, allSized, bdV, bsV, rowsD, mkV, bdN, slV, newsP, TD.notInt, TD.agg, azV, clrV, cpyV, cpV, lenV, minV, maxV, ncV, exV, condV, retV, thenQ, blockQ, Value.oneCell', forall_const, true_implies, ne_eq, reduceCtorEq, false_implies, eq_self, if_true, if_false, ↓reduceIte, Nat.reduceEqDiff, Int.reduceLE, Int.reduceLT, Int.reduceNeg, Int.reduceToNat, Nat.reduceAdd, Nat.reduceMul, Nat.reduceLeDiff, Nat.reduceMod, Nat.reduceSub, Int.reduceEq, Int.reduceNe, Int.reduceAdd, Int.reduceSub, Int.reduceMul, implies_true, apV, bstr_toL]
    exact ⟨_, Heap.le_refl _, rfl⟩
  · have q : ((p.length : Int) ≤ (l.length : Int)) = False := eq_false (by omega)
    have hf : decide (l.take p.length = p) = false := decide_eq_false fun h' => by
      have := congrArg List.length h'
      rw [List.length_take] at this
      omega
    (repeat (first | refine W_seq ?_ | refine W_block ?_ | refine W_skip ?_ | refine W_exit ?_ | refine W_ret ?_ | refine W_label ?_ | ((first | refine W_ops (by kernel_rfl) ?_ | refine W_if ?_ | refine WL_go (by kernel_rfl) (by kernel_rfl) ?_); simp (maxSteps := 4000000) only [vX, vB, vT, vZ, vcOps, isCall, mmV, lkV, muV, keyVal, keyVals, mget_nil, ↓selV_eq, stepOp, clV, biV, bnU, nilU, binV, bInt, bStr, bNilP, bNilS, bNilM, nilOp, D.nilPtr, D.nilSl, D.nilMap, isBoolTy, unV, cwV, cvV, elsP, partV, fieldsOf, fieldV, faV, iaV, ixV, ldC, ldV, stV, D.cells, putAt, bxV, alV, bldD, placesOf, allSized, bdV, bsV, rowsD, mkV, bdN, slV, newsP, TD.notInt, TD.agg, azV, clrV, cpyV, cpV, lenV, minV, maxV, ncV, exV, condV, retV, thenQ, blockQ, Value.oneCell', forall_const, true_implies, ne_eq, reduceCtorEq, false_implies, eq_self, if_true, if_false, ↓reduceIte, Nat.reduceEqDiff, Int.reduceLE, Int.reduceLT, Int.reduceNeg, Int.reduceToNat, Nat.reduceAdd, Nat.reduceMul, Nat.reduceLeDiff, Nat.reduceMod, Nat.reduceSub, Int.reduceEq, Int.reduceNe, Int.reduceAdd, Int.reduceSub, Int.reduceMul, implies_true, apV, hs, hs2, q, hf])))
    refine hret _ _ (by first | exact .inr rfl | exact .inl rfl) (by first | rfl | assumption | (simp only [put_df, withH_df]; assumption)) ?_; simp (maxSteps := 4000000) only [vX, vB, vT, vZ, vcOps, isCall, mmV, lkV, muV, keyVal, keyVals, mget_nil, ↓selV_eq, stepOp, clV, biV, bnU, nilU, binV, bInt, bStr, bNilP, bNilS, bNilM, nilOp, D.nilPtr, D.nilSl, D.nilMap, isBoolTy, unV, cwV, cvV, elsP, partV, fieldsOf, fieldV, faV, iaV, ixV, ldC, ldV, stV, D.cells, putAt, bxV, alV, bldD, placesOf, allSized, bdV, bsV, rowsD, mkV, bdN, slV, newsP, TD.notInt, TD.agg, azV, clrV, cpyV, cpV, lenV, minV, maxV, ncV, exV, condV, retV, thenQ, blockQ, Value.oneCell', forall_const, true_implies, ne_eq, reduceCtorEq, false_implies, eq_self, if_true, if_false, ↓reduceIte, Nat.reduceEqDiff, Int.reduceLE, Int.reduceLT, Int.reduceNeg, Int.reduceToNat, Nat.reduceAdd, Nat.reduceMul, Nat.reduceLeDiff, Nat.reduceMod, Nat.reduceSub, Int.reduceEq, Int.reduceNe, Int.reduceAdd, Int.reduceSub, Int.reduceMul, implies_true, apV, hf]
    exact ⟨_, Heap.le_refl _, rfl⟩
theorem pre_N (l p : List UInt8) (H : Heap) (hl : l.length ≤ 140737488351232) (hp : p.length ≤ 1000) : Does Try.prog 84 [.val (.string (bstr l)), .val (.string (bstr p))] H fun d H' => d = .val (.bool (decide (l.take p.length = p))) ∧ H = H' := by
  refine does_of _ _ Try.func84 rfl rfl Try.ntmps84 Try.results84 (by simp only [List.length_cons, List.length_nil]; omega) fun w0 Q hret => ?_
  (repeat (first | refine W_seq ?_ | refine W_block ?_ | refine W_skip ?_ | refine W_exit ?_ | refine W_ret ?_ | refine W_label ?_ | ((first | refine W_ops (by kernel_rfl) ?_ | refine W_if ?_ | refine WL_go (by kernel_rfl) (by kernel_rfl) ?_); simp (maxSteps := 4000000) only [vX, vB, vT, vZ, vcOps, isCall, mmV, lkV, muV, keyVal, keyVals, mget_nil, ↓selV_eq, stepOp, clV, biV, bnU, nilU, binV, bInt, bStr, bNilP, bNilS, bNilM, nilOp, D.nilPtr, D.nilSl, D.nilMap, isBoolTy, unV, cwV, cvV, elsP, partV, fieldsOf, fieldV, faV, iaV, ixV, ldC, ldV, stV, D.cells, putAt, bxV, alV, bldD, placesOf, allSized, bdV, bsV, rowsD, mkV, bdN, slV, newsP, TD.notInt, TD.agg, azV, clrV, cpyV, cpV, lenV, minV, maxV, ncV, exV, condV, retV, thenQ, blockQ, Value.oneCell', forall_const, true_implies, ne_eq, reduceCtorEq, false_implies, eq_self, if_true, if_false, ↓reduceIte, Nat.reduceEqDiff, Int.reduceLE, Int.reduceLT, Int.reduceNeg, Int.reduceToNat, Nat.reduceAdd, Nat.reduceMul, Nat.reduceLeDiff, Nat.reduceMod, Nat.reduceSub, Int.reduceEq, Int.reduceNe, Int.reduceAdd, Int.reduceSub, Int.reduceMul, implies_true, apV, hl])))
  refine (lpre_N l p _ hl hp).mono ?_
  rintro d _ ⟨rfl, rfl⟩
  (repeat (first | refine W_seq ?_ | refine W_block ?_ | refine W_skip ?_ | refine W_exit ?_ | refine W_ret ?_ | refine W_label ?_ | ((first | refine W_ops (by kernel_rfl) ?_ | refine W_if ?_ | refine WL_go (by kernel_rfl) (by kernel_rfl) ?_); simp (maxSteps := 4000000) only [vX, vB, vT, vZ, vcOps, isCall, mmV, lkV, muV, keyVal, keyVals, mget_nil, ↓selV_eq, stepOp, clV, biV, bnU, nilU, binV, bInt, bStr, bNilP, bNilS, bNilM, nilOp, D.nilPtr, D.nilSl, D.nilMap, isBoolTy, unV, cwV, cvV, elsP, partV, fieldsOf, fieldV, faV, iaV, ixV, ldC, ldV, stV, D.cells, putAt, bxV, alV, bldD, placesOf, allSized, bdV, bsV, rowsD, mkV, bdN, slV, newsP, TD.notInt, TD.agg, azV, clrV, cpyV, cpV, lenV, minV, maxV, ncV, exV, condV, retV, thenQ, blockQ, Value.oneCell', forall_const, true_implies, ne_eq, reduceCtorEq, false_implies, eq_self, if_true, if_false, ↓reduceIte, Nat.reduceEqDiff, Int.reduceLE, Int.reduceLT, Int.reduceNeg, Int.reduceToNat, Nat.reduceAdd, Nat.reduceMul, Nat.reduceLeDiff, Nat.reduceMod, Nat.reduceSub, Int.reduceEq, Int.reduceNe, Int.reduceAdd, Int.reduceSub, Int.reduceMul, implies_true, apV, hl])))
  refine hret _ _ (by first | exact .inr rfl | exact .inl rfl) (by first | rfl | assumption | (simp only [put_df, withH_df]; assumption)) ?_; simp (maxSteps := 4000000) only [vX, vB, vT, vZ, vcOps, isCall, mmV, lkV, muV, keyVal, keyVals, mget_nil, ↓selV_eq, stepOp, clV, biV, bnU, nilU, binV, bInt, bStr, bNilP, bNilS, bNilM, nilOp, D.nilPtr, D.nilSl, D.nilMap, isBoolTy, unV, cwV, cvV, elsP, partV, fieldsOf, fieldV, faV, iaV, ixV, ldC, ldV, stV, D.cells, putAt, bxV, alV, bldD, placesOf, allSized, bdV, bsV, rowsD, mkV, bdN, slV, newsP, TD.notInt, TD.agg, azV, clrV, cpyV, cpV, lenV, minV, maxV, ncV, exV, condV, retV, thenQ, blockQ, Value.oneCell', forall_const, true_implies, ne_eq, reduceCtorEq, false_implies, eq_self, if_true, if_false, ↓reduceIte, Nat.reduceEqDiff, Int.reduceLE, Int.reduceLT, Int.reduceNeg, Int.reduceToNat, Nat.reduceAdd, Nat.reduceMul, Nat.reduceLeDiff, Nat.reduceMod, Nat.reduceSub, Int.reduceEq, Int.reduceNe, Int.reduceAdd, Int.reduceSub, Int.reduceMul, implies_true, apV, hl]
  exact ⟨_, Heap.le_refl _, rfl⟩
theorem magic_N (l : List UInt8) (v : Bool) (H : Heap) (hl : l.length ≤ 140737488351232) (hv : decide (l.take 4 = [77, 73, 82, 84]) = v) : Does Try.prog 84 [.val (.string (bstr l)), .val (.string (bstr [77, 73, 82, 84]))] H fun d H' => d = .val (.bool v) ∧ H = H' := by
  subst hv
  exact pre_N l [77, 73, 82, 84] H hl (by decide)
def FrI (b : List UInt8) (l : Nat) (J : List (Sec × Nat) → Heap → Prop) (xs : List (Sec × Nat)) (s : St) : Prop :=
  s.df = [] ∧ s.fr 0 = yD l ∧ s.fr 1 = .rp [.seq 1 (b.map bD)] ∧ ∃ (at_ last : Nat) (pre : List (Sec × Nat)) (k : Nat), s.fr 3 = .val (.int .i64 last) ∧ s.fr 4 = .val (.int .i64 at_) ∧ last ≤ 127 ∧ at_ ≤ b.length ∧ b.length - at_ < k ∧ pre ++ frs (scan b k at_ last) = xs ∧ J pre s.H
set_option maxRecDepth 100000 in
theorem frames_it (b : List UInt8) (hb : b.length ≤ 140737488351232) : Iter Try.prog 83 [.rp [.seq 1 (b.map bD)]] (fun x => [.agg (frD x)]) (frs (readF b)) fun _ => True := by
  refine iter_of _ Try.func83 rfl rfl Try.ntmps83 Try.results83 (by simp only [List.length_cons, List.length_nil]; omega) fun l J Jx H w0 Q hok hJ hY hret => ?_
  (repeat (first | refine W_seq ?_ | refine W_block ?_ | refine W_skip ?_ | refine W_exit ?_ | refine W_ret ?_ | refine W_label ?_ | ((first | refine W_ops (by kernel_rfl) ?_ | refine W_if ?_ | refine WL_go (by kernel_rfl) (by kernel_rfl) ?_); simp (maxSteps := 4000000) only [vX, vB, vT, vZ, vcOps, isCall, mmV, lkV, muV, keyVal, keyVals, mget_nil, ↓selV_eq, stepOp, clV, biV, bnU, nilU, binV, bInt, bStr, bNilP, bNilS, bNilM, nilOp, D.nilPtr, D.nilSl, D.nilMap, isBoolTy, unV, cwV, cvV, elsP, partV, fieldsOf, fieldV, faV, iaV, ixV, ldC, ldV, stV, D.cells, putAt, bxV, alV, bldD, placesOf, allSized, bdV, bsV, rowsD, mkV, bdN, slV, newsP, TD.notInt, TD.agg, azV, clrV, cpyV, cpV, lenV, minV, maxV, ncV, exV, condV, retV, thenQ, blockQ, Value.oneCell', forall_const, true_implies, ne_eq, reduceCtorEq, false_implies, eq_self, if_true, if_false, ↓reduceIte, Nat.reduceEqDiff, Int.reduceLE, Int.reduceLT, Int.reduceNeg, Int.reduceToNat, Nat.reduceAdd, Nat.reduceMul, Nat.reduceLeDiff, Nat.reduceMod, Nat.reduceSub, Int.reduceEq, Int.reduceNe, Int.reduceAdd, Int.reduceSub, Int.reduceMul, implies_true, apV, hb, bytesOf_map])))
  refine (magic_N b _ _ hb rfl).mono ?_
  rintro d _ ⟨rfl, rfl⟩
  by_cases h1 : b.take 4 = [77, 73, 82, 84]
  · rw [decide_eq_true h1]
    have hl4 : 4 ≤ b.length := by
      have := congrArg List.length h1
      rw [List.length_take] at this
      simp at this
      omega
    by_cases h2 : b.length = 4
    · have hx : frs (readF b) = [(⟨0, 0, 0⟩, 4)] := by
        have : headF b = 4 := by unfold headF; rw [if_pos h1, if_pos h2]
        simp [readF, this, frs]
      rw [hx] at hY hret
      have q2 : ((b.length : Int) = 4) = True := eq_true (by omega)
      iterate 6 (first | refine W_seq ?_ | refine W_block ?_ | refine W_skip ?_ | refine W_exit ?_ | refine W_ret ?_ | refine W_label ?_ | ((first | refine W_ops (by kernel_rfl) ?_ | refine W_if ?_ | refine WL_go (by kernel_rfl) (by kernel_rfl) ?_); simp (maxSteps := 4000000) only [vX, vB, vT, vZ, vcOps, isCall, mmV, lkV, muV, keyVal, keyVals, mget_nil, ↓selV_eq, stepOp, clV, biV, bnU, nilU, binV, bInt, bStr, bNilP, bNilS, bNilM, nilOp, D.nilPtr, D.nilSl, D.nilMap, isBoolTy, unV, cwV, cvV, elsP, partV, fieldsOf, fieldV, faV, iaV, ixV, ldC, ldV, stV, D.cells, putAt, bxV, alV, bldD, placesOf, allSized, bdV, bsV, rowsD, mkV, bdN, slV, newsP, TD.notInt, TD.agg, azV, clrV, cpyV, cpV, lenV, minV, maxV, ncV, exV, condV, retV, thenQ, blockQ, Value.oneCell', forall_const, true_implies, ne_eq, reduceCtorEq, false_implies, eq_self, if_true, if_false, ↓reduceIte, Nat.reduceEqDiff, Int.reduceLE, Int.reduceLT, Int.reduceNeg, Int.reduceToNat, Nat.reduceAdd, Nat.reduceMul, Nat.reduceLeDiff, Nat.reduceMod, Nat.reduceSub, Int.reduceEq, Int.reduceNe, Int.reduceAdd, Int.reduceSub, Int.reduceMul, implies_true, apV, hb, List.length_map, q2]))
      refine W_cut (2) (by kernel_rfl) ?_; simp (maxSteps := 4000000) only [vX, vB, vT, vZ, vcOps, isCall, mmV, lkV, muV, keyVal, keyVals, mget_nil, ↓selV_eq, stepOp, clV, biV, bnU, nilU, binV, bInt, bStr, bNilP, bNilS, bNilM, nilOp, D.nilPtr, D.nilSl, D.nilMap, isBoolTy, unV, cwV, cvV, elsP, partV, fieldsOf, fieldV, faV, iaV, ixV, ldC, ldV, stV, D.cells, putAt, bxV, alV, bldD, placesOf, allSized, bdV, bsV, rowsD, mkV, bdN, slV, newsP, TD.notInt, TD.agg, azV, clrV, cpyV, cpV, lenV, minV, maxV, ncV, exV, condV, retV, thenQ, blockQ, Value.oneCell', forall_const, true_implies, ne_eq, reduceCtorEq, false_implies, eq_self, if_true, if_false, ↓reduceIte, Nat.reduceEqDiff, Int.reduceLE, Int.reduceLT, Int.reduceNeg, Int.reduceToNat, Nat.reduceAdd, Nat.reduceMul, Nat.reduceLeDiff, Nat.reduceMod, Nat.reduceSub, Int.reduceEq, Int.reduceNe, Int.reduceAdd, Int.reduceSub, Int.reduceMul, implies_true, apV, hb]
      refine WL_cons rfl (WO_yield [] (⟨0, 0, 0⟩, 4) rfl rfl rfl (by simp [okd]) hY (by simp) hJ rfl (fun H' hj => ?_) fun H' hj => ?_)
      · (repeat (first | refine W_seq ?_ | refine W_block ?_ | refine W_skip ?_ | refine W_exit ?_ | refine W_ret ?_ | refine W_label ?_ | ((first | refine W_ops (by kernel_rfl) ?_ | refine W_if ?_ | refine WL_go (by kernel_rfl) (by kernel_rfl) ?_); simp (maxSteps := 4000000) only [vX, vB, vT, vZ, vcOps, isCall, mmV, lkV, muV, keyVal, keyVals, mget_nil, ↓selV_eq, stepOp, clV, biV, bnU, nilU, binV, bInt, bStr, bNilP, bNilS, bNilM, nilOp, D.nilPtr, D.nilSl, D.nilMap, isBoolTy, unV, cwV, cvV, elsP, partV, fieldsOf, fieldV, faV, iaV, ixV, ldC, ldV, stV, D.cells, putAt, bxV, alV, bldD, placesOf, allSized, bdV, bsV, rowsD, mkV, bdN, slV, newsP, TD.notInt, TD.agg, azV, clrV, cpyV, cpV, lenV, minV, maxV, ncV, exV, condV, retV, thenQ, blockQ, Value.oneCell', forall_const, true_implies, ne_eq, reduceCtorEq, false_implies, eq_self, if_true, if_false, ↓reduceIte, Nat.reduceEqDiff, Int.reduceLE, Int.reduceLT, Int.reduceNeg, Int.reduceToNat, Nat.reduceAdd, Nat.reduceMul, Nat.reduceLeDiff, Nat.reduceMod, Nat.reduceSub, Int.reduceEq, Int.reduceNe, Int.reduceAdd, Int.reduceSub, Int.reduceMul, implies_true, apV, hb])))
        exact hret _ _ (.inr rfl) rfl (.inl hj)
      · (repeat (first | refine W_seq ?_ | refine W_block ?_ | refine W_skip ?_ | refine W_exit ?_ | refine W_ret ?_ | refine W_label ?_ | ((first | refine W_ops (by kernel_rfl) ?_ | refine W_if ?_ | refine WL_go (by kernel_rfl) (by kernel_rfl) ?_); simp (maxSteps := 4000000) only [vX, vB, vT, vZ, vcOps, isCall, mmV, lkV, muV, keyVal, keyVals, mget_nil, ↓selV_eq, stepOp, clV, biV, bnU, nilU, binV, bInt, bStr, bNilP, bNilS, bNilM, nilOp, D.nilPtr, D.nilSl, D.nilMap, isBoolTy, unV, cwV, cvV, elsP, partV, fieldsOf, fieldV, faV, iaV, ixV, ldC, ldV, stV, D.cells, putAt, bxV, alV, bldD, placesOf, allSized, bdV, bsV, rowsD, mkV, bdN, slV, newsP, TD.notInt, TD.agg, azV, clrV, cpyV, cpV, lenV, minV, maxV, ncV, exV, condV, retV, thenQ, blockQ, Value.oneCell', forall_const, true_implies, ne_eq, reduceCtorEq, false_implies, eq_self, if_true, if_false, ↓reduceIte, Nat.reduceEqDiff, Int.reduceLE, Int.reduceLT, Int.reduceNeg, Int.reduceToNat, Nat.reduceAdd, Nat.reduceMul, Nat.reduceLeDiff, Nat.reduceMod, Nat.reduceSub, Int.reduceEq, Int.reduceNe, Int.reduceAdd, Int.reduceSub, Int.reduceMul, implies_true, apV, hb])))
        exact hret _ _ (.inr rfl) rfl (.inr ⟨_, hj⟩)
    · have q2 : ((b.length : Int) = 4) = False := eq_false (by omega)
      have hg : (b.map bD)[4]? = some [.val (.int .u8 ((b.getD 4 0).toNat : Int))] := by
        rw [List.getElem?_map, List.getElem?_eq_getElem (by omega)]
        simp [bD, List.getD, show 4 < b.length by omega]
      by_cases h3 : b.getD 4 0 = 1
      · have q3 : (((b.getD 4 0).toNat : Int) = 1) = True := eq_true (by rw [h3]; rfl)
        (repeat (first | refine W_seq ?_ | refine W_block ?_ | refine W_skip ?_ | refine W_exit ?_ | refine W_ret ?_ | refine W_label ?_ | ((first | refine W_ops (by kernel_rfl) ?_ | refine W_if ?_ | refine WL_go (by kernel_rfl) (by kernel_rfl) ?_); simp (maxSteps := 4000000) only [vX, vB, vT, vZ, vcOps, isCall, mmV, lkV, muV, keyVal, keyVals, mget_nil, ↓selV_eq, stepOp, clV, biV, bnU, nilU, binV, bInt, bStr, bNilP, bNilS, bNilM, nilOp, D.nilPtr, D.nilSl, D.nilMap, isBoolTy, unV, cwV, cvV, elsP, partV, fieldsOf, fieldV, faV, iaV, ixV, ldC, ldV, stV, D.cells, putAt, bxV, alV, bldD, placesOf, allSized, bdV, bsV, rowsD, mkV, bdN, slV, newsP, TD.notInt, TD.agg, azV, clrV, cpyV, cpV, lenV, minV, maxV, ncV, exV, condV, retV, thenQ, blockQ, Value.oneCell', forall_const, true_implies, ne_eq, reduceCtorEq, false_implies, eq_self, if_true, if_false, ↓reduceIte, Nat.reduceEqDiff, Int.reduceLE, Int.reduceLT, Int.reduceNeg, Int.reduceToNat, Nat.reduceAdd, Nat.reduceMul, Nat.reduceLeDiff, Nat.reduceMod, Nat.reduceSub, Int.reduceEq, Int.reduceNe, Int.reduceAdd, Int.reduceSub, Int.reduceMul, implies_true, apV, hb, List.length_map, q2, q3, hg])))
        have h0 : headF b = 0 := by unfold headF; rw [if_pos h1, if_neg h2, if_pos h3]
        have hx : frs (readF b) = frs (scan b b.length 5 0) := by unfold readF; rw [if_pos h0]
        refine W_loop (FrI b l J (frs (readF b))) (fun s => b.length - (intD (s.fr 4)).toNat) _ (Heap.le_refl _) ⟨rfl, rfl, rfl, 5, 0, [], b.length, rfl, rfl, by omega, by omega, by omega, by rw [hx]; rfl, hJ⟩ ?_
        rintro s ⟨hdf, f0, f1, at_, last, pre, k, f3, f4, hl, ha, hk, hxs, hj⟩
        rw [← hxs] at hY hret
        by_cases hat : at_ < b.length
        · have q4 : ((at_ : Int) < (b.length : Int)) = True := eq_true (by omega)
          obtain ⟨k, rfl⟩ : ∃ m, k = m + 1 := ⟨k - 1, by omega⟩
          have hok2 := next_ok (last := last) hat
          obtain ⟨⟨⟨id, fr, to⟩, e⟩, hN⟩ : ∃ N, nextF b at_ last = N := ⟨_, rfl⟩
          have hs : scan b (k + 1) at_ last = if e = 0 then (⟨id, fr, to⟩ :: (scan b k (to + 4) id).1, (scan b k (to + 4) id).2) else ([], e) := by
            rw [scan_succ, if_pos hat, hN]
          rw [hN] at hok2
          rw [hs] at hxs hY hret
          (repeat (first | refine W_seq ?_ | refine W_block ?_ | refine W_skip ?_ | refine W_exit ?_ | refine W_ret ?_ | refine W_label ?_ | ((first | refine W_ops (by kernel_rfl) ?_ | refine W_if ?_ | refine WL_go (by kernel_rfl) (by kernel_rfl) ?_); simp (maxSteps := 4000000) only [vX, vB, vT, vZ, vcOps, isCall, mmV, lkV, muV, keyVal, keyVals, mget_nil, ↓selV_eq, stepOp, clV, biV, bnU, nilU, binV, bInt, bStr, bNilP, bNilS, bNilM, nilOp, D.nilPtr, D.nilSl, D.nilMap, isBoolTy, unV, cwV, cvV, elsP, partV, fieldsOf, fieldV, faV, iaV, ixV, ldC, ldV, stV, D.cells, putAt, bxV, alV, bldD, placesOf, allSized, bdV, bsV, rowsD, mkV, bdN, slV, newsP, TD.notInt, TD.agg, azV, clrV, cpyV, cpV, lenV, minV, maxV, ncV, exV, condV, retV, thenQ, blockQ, Value.oneCell', forall_const, true_implies, ne_eq, reduceCtorEq, false_implies, eq_self, if_true, if_false, ↓reduceIte, Nat.reduceEqDiff, Int.reduceLE, Int.reduceLT, Int.reduceNeg, Int.reduceToNat, Nat.reduceAdd, Nat.reduceMul, Nat.reduceLeDiff, Nat.reduceMod, Nat.reduceSub, Int.reduceEq, Int.reduceNe, Int.reduceAdd, Int.reduceSub, Int.reduceMul, implies_true, apV, f0, f1, f3, f4, List.length_map, q4])))
          refine (next_N b at_ last _ hb hat hl).mono ?_
          rintro d _ ⟨rfl, rfl⟩
          rw [hN]
          iterate 1 (first | refine W_seq ?_ | refine W_block ?_ | refine W_skip ?_ | refine W_exit ?_ | refine W_ret ?_ | refine W_label ?_ | ((first | refine W_ops (by kernel_rfl) ?_ | refine W_if ?_ | refine WL_go (by kernel_rfl) (by kernel_rfl) ?_); simp (maxSteps := 4000000) only [vX, vB, vT, vZ, vcOps, isCall, mmV, lkV, muV, keyVal, keyVals, mget_nil, ↓selV_eq, stepOp, clV, biV, bnU, nilU, binV, bInt, bStr, bNilP, bNilS, bNilM, nilOp, D.nilPtr, D.nilSl, D.nilMap, isBoolTy, unV, cwV, cvV, elsP, partV, fieldsOf, fieldV, faV, iaV, ixV, ldC, ldV, stV, D.cells, putAt, bxV, alV, bldD, placesOf, allSized, bdV, bsV, rowsD, mkV, bdN, slV, newsP, TD.notInt, TD.agg, azV, clrV, cpyV, cpV, lenV, minV, maxV, ncV, exV, condV, retV, thenQ, blockQ, Value.oneCell', forall_const, true_implies, ne_eq, reduceCtorEq, false_implies, eq_self, if_true, if_false, ↓reduceIte, Nat.reduceEqDiff, Int.reduceLE, Int.reduceLT, Int.reduceNeg, Int.reduceToNat, Nat.reduceAdd, Nat.reduceMul, Nat.reduceLeDiff, Nat.reduceMod, Nat.reduceSub, Int.reduceEq, Int.reduceNe, Int.reduceAdd, Int.reduceSub, Int.reduceMul, implies_true, apV, f0, f1, f3, f4, frD, i64]))
          intro r hr
          refine W_frzp 5 rfl (Heap.upd_same _ _ _) rfl ?_
          have hd := Heap.del_none hr
          simp only [St.frzp, Heap.del_upd_same, hd]
          iterate 2 (first | refine W_seq ?_ | refine W_block ?_ | refine W_skip ?_ | refine W_exit ?_ | refine W_ret ?_ | refine W_label ?_ | ((first | refine W_ops (by kernel_rfl) ?_ | refine W_if ?_ | refine WL_go (by kernel_rfl) (by kernel_rfl) ?_); simp (maxSteps := 4000000) only [vX, vB, vT, vZ, vcOps, isCall, mmV, lkV, muV, keyVal, keyVals, mget_nil, ↓selV_eq, stepOp, clV, biV, bnU, nilU, binV, bInt, bStr, bNilP, bNilS, bNilM, nilOp, D.nilPtr, D.nilSl, D.nilMap, isBoolTy, unV, cwV, cvV, elsP, partV, fieldsOf, fieldV, faV, iaV, ixV, ldC, ldV, stV, D.cells, putAt, bxV, alV, bldD, placesOf, allSized, bdV, bsV, rowsD, mkV, bdN, slV, newsP, TD.notInt, TD.agg, azV, clrV, cpyV, cpV, lenV, minV, maxV, ncV, exV, condV, retV, thenQ, blockQ, Value.oneCell', forall_const, true_implies, ne_eq, reduceCtorEq, false_implies, eq_self, if_true, if_false, ↓reduceIte, Nat.reduceEqDiff, Int.reduceLE, Int.reduceLT, Int.reduceNeg, Int.reduceToNat, Nat.reduceAdd, Nat.reduceMul, Nat.reduceLeDiff, Nat.reduceMod, Nat.reduceSub, Int.reduceEq, Int.reduceNe, Int.reduceAdd, Int.reduceSub, Int.reduceMul, implies_true, apV, f0, f1, f3, f4, hd]))
          refine W_cut (2) (by kernel_rfl) ?_; simp (maxSteps := 4000000) only [vX, vB, vT, vZ, vcOps, isCall, mmV, lkV, muV, keyVal, keyVals, mget_nil, ↓selV_eq, stepOp, clV, biV, bnU, nilU, binV, bInt, bStr, bNilP, bNilS, bNilM, nilOp, D.nilPtr, D.nilSl, D.nilMap, isBoolTy, unV, cwV, cvV, elsP, partV, fieldsOf, fieldV, faV, iaV, ixV, ldC, ldV, stV, D.cells, putAt, bxV, alV, bldD, placesOf, allSized, bdV, bsV, rowsD, mkV, bdN, slV, newsP, TD.notInt, TD.agg, azV, clrV, cpyV, cpV, lenV, minV, maxV, ncV, exV, condV, retV, thenQ, blockQ, Value.oneCell', forall_const, true_implies, ne_eq, reduceCtorEq, false_implies, eq_self, if_true, if_false, ↓reduceIte, Nat.reduceEqDiff, Int.reduceLE, Int.reduceLT, Int.reduceNeg, Int.reduceToNat, Nat.reduceAdd, Nat.reduceMul, Nat.reduceLeDiff, Nat.reduceMod, Nat.reduceSub, Int.reduceEq, Int.reduceNe, Int.reduceAdd, Int.reduceSub, Int.reduceMul, implies_true, apV, f0, f1, f3, f4, hd]
          by_cases he : e = 0
          · subst he
            rw [if_pos rfl] at hs hxs hY hret
            have hcons : ∀ r : List Sec × Nat, frs (⟨id, fr, to⟩ :: r.1, r.2) = (⟨id, fr, to⟩, 0) :: frs r := fun r => rfl
            rw [hcons] at hxs hY hret
            refine WL_cons rfl (WO_yield pre (⟨id, fr, to⟩, 0) rfl rfl rfl (by simp [okd]) hY ⟨frs (scan b k (to + 4) id), by simp⟩ hj rfl (fun H' hj2 => ?_) fun H' hj2 => ?_)
            · (repeat (first | refine W_seq ?_ | refine W_block ?_ | refine W_skip ?_ | refine W_exit ?_ | refine W_ret ?_ | refine W_label ?_ | ((first | refine W_ops (by kernel_rfl) ?_ | refine W_if ?_ | refine WL_go (by kernel_rfl) (by kernel_rfl) ?_); simp (maxSteps := 4000000) only [vX, vB, vT, vZ, vcOps, isCall, mmV, lkV, muV, keyVal, keyVals, mget_nil, ↓selV_eq, stepOp, clV, biV, bnU, nilU, binV, bInt, bStr, bNilP, bNilS, bNilM, nilOp, D.nilPtr, D.nilSl, D.nilMap, isBoolTy, unV, cwV, cvV, elsP, partV, fieldsOf, fieldV, faV, iaV, ixV, ldC, ldV, stV, D.cells, putAt, bxV, alV, bldD, placesOf, allSized, bdV, bsV, rowsD, mkV, bdN, slV, newsP, TD.notInt, TD.agg, azV, clrV, cpyV, cpV, lenV, minV, maxV, ncV, exV, condV, retV, thenQ, blockQ, Value.oneCell', forall_const, true_implies, ne_eq, reduceCtorEq, false_implies, eq_self, if_true, if_false, ↓reduceIte, Nat.reduceEqDiff, Int.reduceLE, Int.reduceLT, Int.reduceNeg, Int.reduceToNat, Nat.reduceAdd, Nat.reduceMul, Nat.reduceLeDiff, Nat.reduceMod, Nat.reduceSub, Int.reduceEq, Int.reduceNe, Int.reduceAdd, Int.reduceSub, Int.reduceMul, implies_true, apV, f0, f1, f3, f4])))
              obtain ⟨g1, g2, g3, g4, g5⟩ := hok2 rfl
              have g5' : to + 4 ≤ b.length := g5
              have g34 : at_ + 1 ≤ to := Nat.le_trans g3 g4
              have g2' : id ≤ 127 := g2
              have hw : IntKind.i64.wrap ((to : Int) + 4) = ((to + 4 : Nat) : Int) := by rw [wrap_i64_of (by omega)]; omega
              simp only [thenQ]
              refine W_wild (fun t => decide (t = some 47 ∨ t = some 49)) (fun _ => false) (fun _ _ _ _ => False) (fun _ _ _ _ _ => False) (by kernel_rfl) (by kernel_rfl) (by kernel_rfl) (by kernel_rfl) (by kernel_rfl) ?_; simp (maxSteps := 4000000) only [vX, vB, vT, vZ, vcOps, isCall, mmV, lkV, muV, keyVal, keyVals, mget_nil, ↓selV_eq, stepOp, clV, biV, bnU, nilU, binV, bInt, bStr, bNilP, bNilS, bNilM, nilOp, D.nilPtr, D.nilSl, D.nilMap, isBoolTy, unV, cwV, cvV, elsP, partV, fieldsOf, fieldV, faV, iaV, ixV, ldC, ldV, stV, D.cells, putAt, bxV, alV, bldD, placesOf, allSized, bdV, bsV, rowsD, mkV, bdN, slV, newsP, TD.notInt, TD.agg, azV, clrV, cpyV, cpV, lenV, minV, maxV, ncV, exV, condV, retV, thenQ, blockQ, Value.oneCell', forall_const, true_implies, ne_eq, reduceCtorEq, false_implies, eq_self, if_true, if_false, ↓reduceIte, Nat.reduceEqDiff, Int.reduceLE, Int.reduceLT, Int.reduceNeg, Int.reduceToNat, Nat.reduceAdd, Nat.reduceMul, Nat.reduceLeDiff, Nat.reduceMod, Nat.reduceSub, Int.reduceEq, Int.reduceNe, Int.reduceAdd, Int.reduceSub, Int.reduceMul, implies_true, apV, vcW, hOf, fzOp, Bool.false_and, isWild, gW, wildOp, gOp, calmOp, St.out, St.outW, Heap.add_none, Heap.add_upd, disj_upd_iff, disj_none_eq, Option.some.injEq, or_true, true_or, or_false, false_or, ↓calmEq, ↓wildEq, f0, f1, f3, f4, hw]
              exact ⟨_, Heap.le_refl _, ⟨hdf, f0, f1, to + 4, id, pre ++ [(⟨id, fr, to⟩, 0)], k, rfl, rfl, g2', g5', by omega, by rw [List.append_assoc]; exact hxs, hj2⟩, by simp only [f4, intD]; omega⟩
            · (repeat (first | refine W_seq ?_ | refine W_block ?_ | refine W_skip ?_ | refine W_exit ?_ | refine W_ret ?_ | refine W_label ?_ | ((first | refine W_ops (by kernel_rfl) ?_ | refine W_if ?_ | refine WL_go (by kernel_rfl) (by kernel_rfl) ?_); simp (maxSteps := 4000000) only [vX, vB, vT, vZ, vcOps, isCall, mmV, lkV, muV, keyVal, keyVals, mget_nil, ↓selV_eq, stepOp, clV, biV, bnU, nilU, binV, bInt, bStr, bNilP, bNilS, bNilM, nilOp, D.nilPtr, D.nilSl, D.nilMap, isBoolTy, unV, cwV, cvV, elsP, partV, fieldsOf, fieldV, faV, iaV, ixV, ldC, ldV, stV, D.cells, putAt, bxV, alV, bldD, placesOf, allSized, bdV, bsV, rowsD, mkV, bdN, slV, newsP, TD.notInt, TD.agg, azV, clrV, cpyV, cpV, lenV, minV, maxV, ncV, exV, condV, retV, thenQ, blockQ, Value.oneCell', forall_const, true_implies, ne_eq, reduceCtorEq, false_implies, eq_self, if_true, if_false, ↓reduceIte, Nat.reduceEqDiff, Int.reduceLE, Int.reduceLT, Int.reduceNeg, Int.reduceToNat, Nat.reduceAdd, Nat.reduceMul, Nat.reduceLeDiff, Nat.reduceMod, Nat.reduceSub, Int.reduceEq, Int.reduceNe, Int.reduceAdd, Int.reduceSub, Int.reduceMul, implies_true, apV, f0, f1, f3, f4])))
              exact hret _ _ (.inr rfl) hdf (.inr ⟨_, hj2⟩)
          · rw [if_neg he] at hs hxs hY hret
            have hone : frs ([], e) = [(⟨0, 0, 0⟩, e)] := by simp [frs, he]
            rw [hone] at hxs hY hret
            have hz : id = 0 ∧ fr = 0 ∧ to = 0 := nextF_err hN he
            obtain ⟨rfl, rfl, rfl⟩ := hz
            have q5 : ((e : Int) = 0) = False := eq_false (by omega)
            refine WL_cons rfl (WO_yield pre (⟨0, 0, 0⟩, e) rfl rfl rfl (by simp [okd]) hY ⟨[], by simp⟩ hj rfl (fun H' hj2 => ?_) fun H' hj2 => ?_)
            · (repeat (first | refine W_seq ?_ | refine W_block ?_ | refine W_skip ?_ | refine W_exit ?_ | refine W_ret ?_ | refine W_label ?_ | ((first | refine W_ops (by kernel_rfl) ?_ | refine W_if ?_ | refine WL_go (by kernel_rfl) (by kernel_rfl) ?_); simp (maxSteps := 4000000) only [vX, vB, vT, vZ, vcOps, isCall, mmV, lkV, muV, keyVal, keyVals, mget_nil, ↓selV_eq, stepOp, clV, biV, bnU, nilU, binV, bInt, bStr, bNilP, bNilS, bNilM, nilOp, D.nilPtr, D.nilSl, D.nilMap, isBoolTy, unV, cwV, cvV, elsP, partV, fieldsOf, fieldV, faV, iaV, ixV, ldC, ldV, stV, D.cells, putAt, bxV, alV, bldD, placesOf, allSized, bdV, bsV, rowsD, mkV, bdN, slV, newsP, TD.notInt, TD.agg, azV, clrV, cpyV, cpV, lenV, minV, maxV, ncV, exV, condV, retV, thenQ, blockQ, Value.oneCell', forall_const, true_implies, ne_eq, reduceCtorEq, false_implies, eq_self, if_true, if_false, ↓reduceIte, Nat.reduceEqDiff, Int.reduceLE, Int.reduceLT, Int.reduceNeg, Int.reduceToNat, Nat.reduceAdd, Nat.reduceMul, Nat.reduceLeDiff, Nat.reduceMod, Nat.reduceSub, Int.reduceEq, Int.reduceNe, Int.reduceAdd, Int.reduceSub, Int.reduceMul, implies_true, apV, f0, f1, f3, f4, q5])))
              exact hret _ _ (.inr rfl) hdf (.inl hj2)
            · (repeat (first | refine W_seq ?_ | refine W_block ?_ | refine W_skip ?_ | refine W_exit ?_ | refine W_ret ?_ | refine W_label ?_ | ((first | refine W_ops (by kernel_rfl) ?_ | refine W_if ?_ | refine WL_go (by kernel_rfl) (by kernel_rfl) ?_); simp (maxSteps := 4000000) only [vX, vB, vT, vZ, vcOps, isCall, mmV, lkV, muV, keyVal, keyVals, mget_nil, ↓selV_eq, stepOp, clV, biV, bnU, nilU, binV, bInt, bStr, bNilP, bNilS, bNilM, nilOp, D.nilPtr, D.nilSl, D.nilMap, isBoolTy, unV, cwV, cvV, elsP, partV, fieldsOf, fieldV, faV, iaV, ixV, ldC, ldV, stV, D.cells, putAt, bxV, alV, bldD, placesOf, allSized, bdV, bsV, rowsD, mkV, bdN, slV, newsP, TD.notInt, TD.agg, azV, clrV, cpyV, cpV, lenV, minV, maxV, ncV, exV, condV, retV, thenQ, blockQ, Value.oneCell', forall_const, true_implies, ne_eq, reduceCtorEq, false_implies, eq_self, if_true, if_false, ↓reduceIte, Nat.reduceEqDiff, Int.reduceLE, Int.reduceLT, Int.reduceNeg, Int.reduceToNat, Nat.reduceAdd, Nat.reduceMul, Nat.reduceLeDiff, Nat.reduceMod, Nat.reduceSub, Int.reduceEq, Int.reduceNe, Int.reduceAdd, Int.reduceSub, Int.reduceMul, implies_true, apV, f0, f1, f3, f4])))
              exact hret _ _ (.inr rfl) hdf (.inr ⟨_, hj2⟩)
        · have q4 : ((at_ : Int) < (b.length : Int)) = False := eq_false (by omega)
          obtain ⟨k, rfl⟩ : ∃ m, k = m + 1 := ⟨k - 1, by omega⟩
          have hs : scan b (k + 1) at_ last = ([], 0) := by unfold scan; rw [if_neg hat]
          (repeat (first | refine W_seq ?_ | refine W_block ?_ | refine W_skip ?_ | refine W_exit ?_ | refine W_ret ?_ | refine W_label ?_ | ((first | refine W_ops (by kernel_rfl) ?_ | refine W_if ?_ | refine WL_go (by kernel_rfl) (by kernel_rfl) ?_); simp (maxSteps := 4000000) only [vX, vB, vT, vZ, vcOps, isCall, mmV, lkV, muV, keyVal, keyVals, mget_nil, ↓selV_eq, stepOp, clV, biV, bnU, nilU, binV, bInt, bStr, bNilP, bNilS, bNilM, nilOp, D.nilPtr, D.nilSl, D.nilMap, isBoolTy, unV, cwV, cvV, elsP, partV, fieldsOf, fieldV, faV, iaV, ixV, ldC, ldV, stV, D.cells, putAt, bxV, alV, bldD, placesOf, allSized, bdV, bsV, rowsD, mkV, bdN, slV, newsP, TD.notInt, TD.agg, azV, clrV, cpyV, cpV, lenV, minV, maxV, ncV, exV, condV, retV, thenQ, blockQ, Value.oneCell', forall_const, true_implies, ne_eq, reduceCtorEq, false_implies, eq_self, if_true, if_false, ↓reduceIte, Nat.reduceEqDiff, Int.reduceLE, Int.reduceLT, Int.reduceNeg, Int.reduceToNat, Nat.reduceAdd, Nat.reduceMul, Nat.reduceLeDiff, Nat.reduceMod, Nat.reduceSub, Int.reduceEq, Int.reduceNe, Int.reduceAdd, Int.reduceSub, Int.reduceMul, implies_true, apV, f0, f1, f3, f4, List.length_map, q4])))
          refine hret _ _ (.inl rfl) hdf (.inl ?_)
          rw [hs, show pre ++ frs ([], 0) = pre by simp [frs]]
          exact hj
      · have q3 : (((b.getD 4 0).toNat : Int) = 1) = False := eq_false (fun h => h3 (UInt8.toNat_inj.1 (by show _ = 1; omega)))
        have hx : frs (readF b) = [(⟨0, 0, 0⟩, 8)] := by
          have : headF b = 8 := by unfold headF; rw [if_pos h1, if_neg h2, if_neg h3]
          simp [readF, this, frs]
        rw [hx] at hY hret
        iterate 9 (first | refine W_seq ?_ | refine W_block ?_ | refine W_skip ?_ | refine W_exit ?_ | refine W_ret ?_ | refine W_label ?_ | ((first | refine W_ops (by kernel_rfl) ?_ | refine W_if ?_ | refine WL_go (by kernel_rfl) (by kernel_rfl) ?_); simp (maxSteps := 4000000) only [vX, vB, vT, vZ, vcOps, isCall, mmV, lkV, muV, keyVal, keyVals, mget_nil, ↓selV_eq, stepOp, clV, biV, bnU, nilU, binV, bInt, bStr, bNilP, bNilS, bNilM, nilOp, D.nilPtr, D.nilSl, D.nilMap, isBoolTy, unV, cwV, cvV, elsP, partV, fieldsOf, fieldV, faV, iaV, ixV, ldC, ldV, stV, D.cells, putAt, bxV, alV, bldD, placesOf, allSized, bdV, bsV, rowsD, mkV, bdN, slV, newsP, TD.notInt, TD.agg, azV, clrV, cpyV, cpV, lenV, minV, maxV, ncV, exV, condV, retV, thenQ, blockQ, Value.oneCell', forall_const, true_implies, ne_eq, reduceCtorEq, false_implies, eq_self, if_true, if_false, ↓reduceIte, Nat.reduceEqDiff, Int.reduceLE, Int.reduceLT, Int.reduceNeg, Int.reduceToNat, Nat.reduceAdd, Nat.reduceMul, Nat.reduceLeDiff, Nat.reduceMod, Nat.reduceSub, Int.reduceEq, Int.reduceNe, Int.reduceAdd, Int.reduceSub, Int.reduceMul, implies_true, apV, hb, List.length_map, q2, q3, hg]))
        refine W_cut (2) (by kernel_rfl) ?_; simp (maxSteps := 4000000) only [vX, vB, vT, vZ, vcOps, isCall, mmV, lkV, muV, keyVal, keyVals, mget_nil, ↓selV_eq, stepOp, clV, biV, bnU, nilU, binV, bInt, bStr, bNilP, bNilS, bNilM, nilOp, D.nilPtr, D.nilSl, D.nilMap, isBoolTy, unV, cwV, cvV, elsP, partV, fieldsOf, fieldV, faV, iaV, ixV, ldC, ldV, stV, D.cells, putAt, bxV, alV, bldD, placesOf, allSized, bdV, bsV, rowsD, mkV, bdN, slV, newsP, TD.notInt, TD.agg, azV, clrV, cpyV, cpV, lenV, minV, maxV, ncV, exV, condV, retV, thenQ, blockQ, Value.oneCell', forall_const, true_implies, ne_eq, reduceCtorEq, false_implies, eq_self, if_true, if_false, ↓reduceIte, Nat.reduceEqDiff, Int.reduceLE, Int.reduceLT, Int.reduceNeg, Int.reduceToNat, Nat.reduceAdd, Nat.reduceMul, Nat.reduceLeDiff, Nat.reduceMod, Nat.reduceSub, Int.reduceEq, Int.reduceNe, Int.reduceAdd, Int.reduceSub, Int.reduceMul, implies_true, apV, hb]
        refine WL_cons rfl (WO_yield [] (⟨0, 0, 0⟩, 8) rfl rfl rfl (by simp [okd]) hY (by simp) hJ rfl (fun H' hj => ?_) fun H' hj => ?_)
        · (repeat (first | refine W_seq ?_ | refine W_block ?_ | refine W_skip ?_ | refine W_exit ?_ | refine W_ret ?_ | refine W_label ?_ | ((first | refine W_ops (by kernel_rfl) ?_ | refine W_if ?_ | refine WL_go (by kernel_rfl) (by kernel_rfl) ?_); simp (maxSteps := 4000000) only [vX, vB, vT, vZ, vcOps, isCall, mmV, lkV, muV, keyVal, keyVals, mget_nil, ↓selV_eq, stepOp, clV, biV, bnU, nilU, binV, bInt, bStr, bNilP, bNilS, bNilM, nilOp, D.nilPtr, D.nilSl, D.nilMap, isBoolTy, unV, cwV, cvV, elsP, partV, fieldsOf, fieldV, faV, iaV, ixV, ldC, ldV, stV, D.cells, putAt, bxV, alV, bldD, placesOf, allSized, bdV, bsV, rowsD, mkV, bdN, slV, newsP, TD.notInt, TD.agg, azV, clrV, cpyV, cpV, lenV, minV, maxV, ncV, exV, condV, retV, thenQ, blockQ, Value.oneCell', forall_const, true_implies, ne_eq, reduceCtorEq, false_implies, eq_self, if_true, if_false, ↓reduceIte, Nat.reduceEqDiff, Int.reduceLE, Int.reduceLT, Int.reduceNeg, Int.reduceToNat, Nat.reduceAdd, Nat.reduceMul, Nat.reduceLeDiff, Nat.reduceMod, Nat.reduceSub, Int.reduceEq, Int.reduceNe, Int.reduceAdd, Int.reduceSub, Int.reduceMul, implies_true, apV, hb])))
          exact hret _ _ (.inr rfl) rfl (.inl hj)
        · (repeat (first | refine W_seq ?_ | refine W_block ?_ | refine W_skip ?_ | refine W_exit ?_ | refine W_ret ?_ | refine W_label ?_ | ((first | refine W_ops (by kernel_rfl) ?_ | refine W_if ?_ | refine WL_go (by kernel_rfl) (by kernel_rfl) ?_); simp (maxSteps := 4000000) only [vX, vB, vT, vZ, vcOps, isCall, mmV, lkV, muV, keyVal, keyVals, mget_nil, ↓selV_eq, stepOp, clV, biV, bnU, nilU, binV, bInt, bStr, bNilP, bNilS, bNilM, nilOp, D.nilPtr, D.nilSl, D.nilMap, isBoolTy, unV, cwV, cvV, elsP, partV, fieldsOf, fieldV, faV, iaV, ixV, ldC, ldV, stV, D.cells, putAt, bxV, alV, bldD, placesOf, allSized, bdV, bsV, rowsD, mkV, bdN, slV, newsP, TD.notInt, TD.agg, azV, clrV, cpyV, cpV, lenV, minV, maxV, ncV, exV, condV, retV, thenQ, blockQ, Value.oneCell', forall_const, true_implies, ne_eq, reduceCtorEq, false_implies, eq_self, if_true, if_false, ↓reduceIte, Nat.reduceEqDiff, Int.reduceLE, Int.reduceLT, Int.reduceNeg, Int.reduceToNat, Nat.reduceAdd, Nat.reduceMul, Nat.reduceLeDiff, Nat.reduceMod, Nat.reduceSub, Int.reduceEq, Int.reduceNe, Int.reduceAdd, Int.reduceSub, Int.reduceMul, implies_true, apV, hb])))
          exact hret _ _ (.inr rfl) rfl (.inr ⟨_, hj⟩)
  · rw [decide_eq_false h1]
    have hx : frs (readF b) = [(⟨0, 0, 0⟩, 7)] := by
      have : headF b = 7 := if_neg h1
      simp [readF, this, frs]
    rw [hx] at hY hret
    iterate 3 (first | refine W_seq ?_ | refine W_block ?_ | refine W_skip ?_ | refine W_exit ?_ | refine W_ret ?_ | refine W_label ?_ | ((first | refine W_ops (by kernel_rfl) ?_ | refine W_if ?_ | refine WL_go (by kernel_rfl) (by kernel_rfl) ?_); simp (maxSteps := 4000000) only [vX, vB, vT, vZ, vcOps, isCall, mmV, lkV, muV, keyVal, keyVals, mget_nil, ↓selV_eq, stepOp, clV, biV, bnU, nilU, binV, bInt, bStr, bNilP, bNilS, bNilM, nilOp, D.nilPtr, D.nilSl, D.nilMap, isBoolTy, unV, cwV, cvV, elsP, partV, fieldsOf, fieldV, faV, iaV, ixV, ldC, ldV, stV, D.cells, putAt, bxV, alV, bldD, placesOf, allSized, bdV, bsV, rowsD, mkV, bdN, slV, newsP, TD.notInt, TD.agg, azV, clrV, cpyV, cpV, lenV, minV, maxV, ncV, exV, condV, retV, thenQ, blockQ, Value.oneCell', forall_const, true_implies, ne_eq, reduceCtorEq, false_implies, eq_self, if_true, if_false, ↓reduceIte, Nat.reduceEqDiff, Int.reduceLE, Int.reduceLT, Int.reduceNeg, Int.reduceToNat, Nat.reduceAdd, Nat.reduceMul, Nat.reduceLeDiff, Nat.reduceMod, Nat.reduceSub, Int.reduceEq, Int.reduceNe, Int.reduceAdd, Int.reduceSub, Int.reduceMul, implies_true, apV, hb]))
    refine W_cut (2) (by kernel_rfl) ?_; simp (maxSteps := 4000000) only [vX, vB, vT, vZ, vcOps, isCall, mmV, lkV, muV, keyVal, keyVals, mget_nil, ↓selV_eq, stepOp, clV, biV, bnU, nilU, binV, bInt, bStr, bNilP, bNilS, bNilM, nilOp, D.nilPtr, D.nilSl, D.nilMap, isBoolTy, unV, cwV, cvV, elsP, partV, fieldsOf, fieldV, faV, iaV, ixV, ldC, ldV, stV, D.cells, putAt, bxV, alV, bldD, placesOf, allSized, bdV, bsV, rowsD, mkV, bdN, slV, newsP, TD.notInt, TD.agg, azV, clrV, cpyV, cpV, lenV, minV, maxV, ncV, exV, condV, retV, thenQ, blockQ, Value.oneCell', forall_const, true_implies, ne_eq, reduceCtorEq, false_implies, eq_self, if_true, if_false, ↓reduceIte, Nat.reduceEqDiff, Int.reduceLE, Int.reduceLT, Int.reduceNeg, Int.reduceToNat, Nat.reduceAdd, Nat.reduceMul, Nat.reduceLeDiff, Nat.reduceMod, Nat.reduceSub, Int.reduceEq, Int.reduceNe, Int.reduceAdd, Int.reduceSub, Int.reduceMul, implies_true, apV, hb]
    refine WL_cons rfl (WO_yield [] (⟨0, 0, 0⟩, 7) rfl rfl rfl (by simp [okd]) hY (by simp) hJ rfl (fun H' hj => ?_) fun H' hj => ?_)
    · (repeat (first | refine W_seq ?_ | refine W_block ?_ | refine W_skip ?_ | refine W_exit ?_ | refine W_ret ?_ | refine W_label ?_ | ((first | refine W_ops (by kernel_rfl) ?_ | refine W_if ?_ | refine WL_go (by kernel_rfl) (by kernel_rfl) ?_); simp (maxSteps := 4000000) only [vX, vB, vT, vZ, vcOps, isCall, mmV, lkV, muV, keyVal, keyVals, mget_nil, ↓selV_eq, stepOp, clV, biV, bnU, nilU, binV, bInt, bStr, bNilP, bNilS, bNilM, nilOp, D.nilPtr, D.nilSl, D.nilMap, isBoolTy, unV, cwV, cvV, elsP, partV, fieldsOf, fieldV, faV, iaV, ixV, ldC, ldV, stV, D.cells, putAt, bxV, alV, bldD, placesOf, allSized, bdV, bsV, rowsD, mkV, bdN, slV, newsP, TD.notInt, TD.agg, azV, clrV, cpyV, cpV, lenV, minV, maxV, ncV, exV, condV, retV, thenQ, blockQ, Value.oneCell', forall_const, true_implies, ne_eq, reduceCtorEq, false_implies, eq_self, if_true, if_false, ↓reduceIte, Nat.reduceEqDiff, Int.reduceLE, Int.reduceLT, Int.reduceNeg, Int.reduceToNat, Nat.reduceAdd, Nat.reduceMul, Nat.reduceLeDiff, Nat.reduceMod, Nat.reduceSub, Int.reduceEq, Int.reduceNe, Int.reduceAdd, Int.reduceSub, Int.reduceMul, implies_true, apV, hb])))
      exact hret _ _ (.inr rfl) rfl (.inl hj)
    · (repeat (first | refine W_seq ?_ | refine W_block ?_ | refine W_skip ?_ | refine W_exit ?_ | refine W_ret ?_ | refine W_label ?_ | ((first | refine W_ops (by kernel_rfl) ?_ | refine W_if ?_ | refine WL_go (by kernel_rfl) (by kernel_rfl) ?_); simp (maxSteps := 4000000) only [vX, vB, vT, vZ, vcOps, isCall, mmV, lkV, muV, keyVal, keyVals, mget_nil, ↓selV_eq, stepOp, clV, biV, bnU, nilU, binV, bInt, bStr, bNilP, bNilS, bNilM, nilOp, D.nilPtr, D.nilSl, D.nilMap, isBoolTy, unV, cwV, cvV, elsP, partV, fieldsOf, fieldV, faV, iaV, ixV, ldC, ldV, stV, D.cells, putAt, bxV, alV, bldD, placesOf, allSized, bdV, bsV, rowsD, mkV, bdN, slV, newsP, TD.notInt, TD.agg, azV, clrV, cpyV, cpV, lenV, minV, maxV, ncV, exV, condV, retV, thenQ, blockQ, Value.oneCell', forall_const, true_implies, ne_eq, reduceCtorEq, false_implies, eq_self, if_true, if_false, ↓reduceIte, Nat.reduceEqDiff, Int.reduceLE, Int.reduceLT, Int.reduceNeg, Int.reduceToNat, Nat.reduceAdd, Nat.reduceMul, Nat.reduceLeDiff, Nat.reduceMod, Nat.reduceSub, Int.reduceEq, Int.reduceNe, Int.reduceAdd, Int.reduceSub, Int.reduceMul, implies_true, apV, hb])))
      exact hret _ _ (.inr rfl) rfl (.inr ⟨_, hj⟩)
end Go.Proofs.Ytgaadmgcjnikkaa
/- package container: frames, Read. -/
namespace Go.Proofs.Ytgaadmgcjnikkaa
open Go.RowKit
set_option linter.unusedVariables false
set_option linter.unusedSimpArgs false
theorem frames_N (b : List UInt8) (H : Heap) : Does Try.prog 71 [.seq 1 (b.map bD)] H fun d H' => d = .fn 83 [.rp [.seq 1 (b.map bD)]] ∧ H = H' := by
  refine does_of _ _ Try.func71 rfl rfl Try.ntmps71 Try.results71 (by simp only [List.length_cons, List.length_nil]; omega) fun w0 Q hret => ?_
  iterate 2 (first | refine W_seq ?_ | refine W_block ?_ | refine W_skip ?_ | refine W_exit ?_ | refine W_ret ?_ | refine W_label ?_ | ((first | refine W_ops (by kernel_rfl) ?_ | refine W_if ?_ | refine WL_go (by kernel_rfl) (by kernel_rfl) ?_); simp (maxSteps := 4000000) only [vX, vB, vT, vZ, vcOps, isCall, mmV, lkV, muV, keyVal, keyVals, mget_nil, ↓selV_eq, stepOp, clV, biV, bnU, nilU, binV, bInt, bStr, bNilP, bNilS, bNilM, nilOp, D.nilPtr, D.nilSl, D.nilMap, isBoolTy, unV, cwV, cvV, elsP, partV, fieldsOf, fieldV, faV, iaV, ixV, ldC, ldV, stV, D.cells, putAt, bxV, alV, bldD, placesOf, allSized, bdV, bsV, rowsD, mkV, bdN, slV, newsP, TD.notInt, TD.agg, azV, clrV, cpyV, cpV, lenV, minV, maxV, ncV, exV, condV, retV, thenQ, blockQ, Value.oneCell', forall_const, true_implies, ne_eq, reduceCtorEq, false_implies, eq_self, if_true, if_false, ↓reduceIte, Nat.reduceEqDiff, Int.reduceLE, Int.reduceLT, Int.reduceNeg, Int.reduceToNat, Nat.reduceAdd, Nat.reduceMul, Nat.reduceLeDiff, Nat.reduceMod, Nat.reduceSub, Int.reduceEq, Int.reduceNe, Int.reduceAdd, Int.reduceSub, Int.reduceMul, implies_true, apV, bytesOf_map]))
  intro r hr
  refine W_frzp 1 rfl (Heap.upd_same _ _ _) rfl ?_
  have hd := Heap.del_none hr
  simp only [St.frzp, Heap.del_upd_same, hd]
  (repeat (first | refine W_seq ?_ | refine W_block ?_ | refine W_skip ?_ | refine W_exit ?_ | refine W_ret ?_ | refine W_label ?_ | ((first | refine W_ops (by kernel_rfl) ?_ | refine W_if ?_ | refine WL_go (by kernel_rfl) (by kernel_rfl) ?_); simp (maxSteps := 4000000) only [vX, vB, vT, vZ, vcOps, isCall, mmV, lkV, muV, keyVal, keyVals, mget_nil, ↓selV_eq, stepOp, clV, biV, bnU, nilU, binV, bInt, bStr, bNilP, bNilS, bNilM, nilOp, D.nilPtr, D.nilSl, D.nilMap, isBoolTy, unV, cwV, cvV, elsP, partV, fieldsOf, fieldV, faV, iaV, ixV, ldC, ldV, stV, D.cells, putAt, bxV, alV, bldD, placesOf, allSized, bdV, bsV, rowsD, mkV, bdN, slV, newsP, TD.notInt, TD.agg, azV, clrV, cpyV, cpV, lenV, minV, maxV, ncV, exV, condV, retV, thenQ, blockQ, Value.oneCell', forall_const, true_implies, ne_eq, reduceCtorEq, false_implies, eq_self, if_true, if_false, ↓reduceIte, Nat.reduceEqDiff, Int.reduceLE, Int.reduceLT, Int.reduceNeg, Int.reduceToNat, Nat.reduceAdd, Nat.reduceMul, Nat.reduceLeDiff, Nat.reduceMod, Nat.reduceSub, Int.reduceEq, Int.reduceNe, Int.reduceAdd, Int.reduceSub, Int.reduceMul, implies_true, apV, hd])))
  refine hret _ _ (by first | exact .inr rfl | exact .inl rfl) (by first | rfl | assumption | (simp only [put_df, withH_df]; assumption)) ?_; simp (maxSteps := 4000000) only [vX, vB, vT, vZ, vcOps, isCall, mmV, lkV, muV, keyVal, keyVals, mget_nil, ↓selV_eq, stepOp, clV, biV, bnU, nilU, binV, bInt, bStr, bNilP, bNilS, bNilM, nilOp, D.nilPtr, D.nilSl, D.nilMap, isBoolTy, unV, cwV, cvV, elsP, partV, fieldsOf, fieldV, faV, iaV, ixV, ldC, ldV, stV, D.cells, putAt, bxV, alV, bldD, placesOf, allSized, bdV, bsV, rowsD, mkV, bdN, slV, newsP, TD.notInt, TD.agg, azV, clrV, cpyV, cpV, lenV, minV, maxV, ncV, exV, condV, retV, thenQ, blockQ, Value.oneCell', forall_const, true_implies, ne_eq, reduceCtorEq, false_implies, eq_self, if_true, if_false, ↓reduceIte, Nat.reduceEqDiff, Int.reduceLE, Int.reduceLT, Int.reduceNeg, Int.reduceToNat, Nat.reduceAdd, Nat.reduceMul, Nat.reduceLeDiff, Nat.reduceMod, Nat.reduceSub, Int.reduceEq, Int.reduceNe, Int.reduceAdd, Int.reduceSub, Int.reduceMul, implies_true, apV, hd]
  exact ⟨_, Heap.le_refl _, rfl⟩
theorem cloneS_N (l : List UInt8) (H : Heap) (hl : l.length ≤ 140737488355328) : Does Try.prog 49 [.seq 1 (l.map bD)] H fun d H' => d = .seq 1 (l.map bD) ∧ H = H' :=
  (clone_seq l H hl).seqOut fun d H' h => by
    rcases h with ⟨rfl, rfl, rfl⟩ | ⟨b, o, hb, rfl, rfl⟩
    · exact .inl ⟨rfl, rfl, rfl⟩
    · exact .inr (.inl ⟨b, o, _, hb, by rw [List.length_map], rfl⟩)
/-- What Read makes of the frames so far. -/
def secD (b : List UInt8) (x : Sec) : List D := [i64 x.id, .seq 1 (((b.drop x.fr).take (x.to - x.fr)).map bD)]
theorem scan_inn {b : List UInt8} : ∀ {k at_ last : Nat} {s : Sec}, s ∈ (scan b k at_ last).1 → s.fr ≤ s.to ∧ s.to + 4 ≤ b.length
  | 0, _, _, s, h => by simp [scan] at h
  | k + 1, at_, last, s, h => by
    rw [scan_succ] at h
    split at h
    · rename_i ha
      split at h
      · rename_i h0
        rcases List.mem_cons.1 h with rfl | h
        · have := next_ok ha h0; omega
        · exact scan_inn h
      · simp at h
    · simp at h
theorem readF_in {b : List UInt8} {s : Sec} (h : s ∈ (readF b).1) : s.fr ≤ s.to ∧ s.to + 4 ≤ b.length := by
  unfold readF at h
  split at h
  · exact scan_inn h
  · simp at h
theorem scan_len {b : List UInt8} : ∀ {k at_ last : Nat}, (scan b k at_ last).1.length ≤ k
  | 0, _, _ => by simp [scan]
  | k + 1, at_, last => by
    rw [scan_succ]
    split
    · split
      · have := @scan_len b k ((nextF b at_ last).1.to + 4) (nextF b at_ last).1.id
        simp only [List.length_cons]; omega
      · simp
    · simp
theorem frs_len (b : List UInt8) : (frs (readF b)).length ≤ b.length + 1 := by
  have : (readF b).1.length ≤ b.length := by
    unfold readF
    split
    · exact scan_len
    · simp
  unfold frs
  rw [List.length_append, List.length_map]
  split <;> simp <;> omega
theorem frs_pre {r : List Sec × Nat} {pre : List (Sec × Nat)} {x : Sec × Nat} (h : (pre ++ [x]) <+: frs r) : (x.2 = 0 ∧ x.1 ∈ r.1) ∨ (x.2 ≠ 0 ∧ x.2 = r.2) := by
  have hx : x ∈ frs r := h.subset (by simp)
  unfold frs at hx
  rcases List.mem_append.1 hx with hx | hx
  · obtain ⟨s, hs, rfl⟩ := List.mem_map.1 hx
    exact .inl ⟨rfl, hs⟩
  · split at hx
    · simp at hx
    · rename_i h0
      simp only [List.mem_singleton] at hx
      subst hx
      exact .inr ⟨h0, rfl⟩
theorem frs_all {r : List Sec × Nat} (h : ∀ x ∈ frs r, x.2 = 0) : r.2 = 0 ∧ frs r = r.1.map fun s => (s, 0) := by
  have h0 : r.2 = 0 := Decidable.byContradiction fun hne => hne (h (⟨0, 0, 0⟩, r.2) (by unfold frs; rw [if_neg hne]; simp))
  exact ⟨h0, by unfold frs; rw [if_pos h0]; simp⟩
def nilS : D := .val (.slice none 0 0)
def RdI (H0 : Heap) (sz : Nat) (e tS : TypeId) (f : Sec → List D) (b2 b3 b4 : Nat) (pre : List (Sec × Nat)) (H : Heap) : Prop :=
  (∀ x ∈ pre, x.2 = 0) ∧ H0.le H ∧ H b2 = some (.row tS 0 1 [[nilS]]) ∧ H b3 = some (.row 31 0 1 [[i64 0]]) ∧ ∃ x ob, H b4 = some (.row tS 0 1 [[x]]) ∧ Gl H0 e sz (pre.map fun y => f y.1) x H ob ∧ ob ≠ some b2 ∧ ob ≠ some b3 ∧ ob ≠ some b4
def RdX (H0 : Heap) (tS : TypeId) (err : Nat) (b2 b3 : Nat) (e : Exit) (H : Heap) : Prop :=
  e = .ret ∧ err ≠ 0 ∧ H0.le H ∧ H b2 = some (.row tS 0 1 [[nilS]]) ∧ H b3 = some (.row 31 0 1 [[i64 err]])
theorem le_rle {H0 H H' : Heap} (hno : ∀ b o, H0 b ≠ some (.obj o)) (h : H0.le H) (hr : rle H H') : H0.le H' := fun b x hb => hr b x (h b x hb) (fun o e => hno b o (by rw [hb, e]))
set_option maxRecDepth 100000 in
theorem read_N (b : List UInt8) (H : Heap) (hno : ∀ b o, H b ≠ some (.obj o)) (hb : b.length ≤ 1000000000) : Does Try.prog 39 [.seq 1 (b.map bD)] H fun d H' => ∃ v, d = .tup [.seq 2 ((if (readF b).2 = 0 then (readF b).1 else []).map (secD b)), .val v] ∧ v = .int .i64 (readF b).2 ∧ H = H' := by
  refine Does.seqT (J := fun v H' => v = .int .i64 (readF b).2 ∧ H = H') ?_
  refine does_ofM _ _ Try.func39 rfl rfl Try.ntmps39 Try.results39 (by simp only [List.length_cons, List.length_nil]; omega) fun w0 Q hret => ?_
  iterate 2 (first | refine W_seq ?_ | refine W_block ?_ | refine W_skip ?_ | refine W_exit ?_ | refine W_ret ?_ | refine W_label ?_ | ((first | refine W_ops (by kernel_rfl) ?_ | refine W_if ?_ | refine WL_go (by kernel_rfl) (by kernel_rfl) ?_); simp (maxSteps := 4000000) only [vX, vB, vT, vZ, vcOps, isCall, mmV, lkV, muV, keyVal, keyVals, mget_nil, ↓selV_eq, stepOp, clV, biV, bnU, nilU, binV, bInt, bStr, bNilP, bNilS, bNilM, nilOp, D.nilPtr, D.nilSl, D.nilMap, isBoolTy, unV, cwV, cvV, elsP, partV, fieldsOf, fieldV, faV, iaV, ixV, ldC, ldV, stV, D.cells, putAt, bxV, alV, bldD, placesOf, allSized, bdV, bsV, rowsD, mkV, bdN, slV, newsP, TD.notInt, TD.agg, azV, clrV, cpyV, cpV, lenV, minV, maxV, ncV, exV, condV, retV, thenQ, blockQ, Value.oneCell', forall_const, true_implies, ne_eq, reduceCtorEq, false_implies, eq_self, if_true, if_false, ↓reduceIte, Nat.reduceEqDiff, Int.reduceLE, Int.reduceLT, Int.reduceNeg, Int.reduceToNat, Nat.reduceAdd, Nat.reduceMul, Nat.reduceLeDiff, Nat.reduceMod, Nat.reduceSub, Int.reduceEq, Int.reduceNe, Int.reduceAdd, Int.reduceSub, Int.reduceMul, implies_true, apV, hb]))
  intro b1 hb1 b2 hb2 b3 hb3
  obtain ⟨n21, hb2⟩ := Heap.upd_none.1 hb2
  obtain ⟨n32, hb3⟩ := Heap.upd_none.1 hb3
  obtain ⟨n31, hb3⟩ := Heap.upd_none.1 hb3
  refine W_frzp 1 rfl (b := b1) (by rw [put_H, put_H, put_H, init_H, Heap.upd_ne (Ne.symm n31), Heap.upd_ne (Ne.symm n21), Heap.upd_same]) rfl ?_
  simp only [St.frzp, put_H, withH_put, init_H, init_withH, Heap.del_upd_ne (Ne.symm n31), Heap.del_upd_ne (Ne.symm n21), Heap.del_upd_same, Heap.del_none hb1]
  iterate 2 (first | refine W_seq ?_ | refine W_block ?_ | refine W_skip ?_ | refine W_exit ?_ | refine W_ret ?_ | refine W_label ?_ | ((first | refine W_ops (by kernel_rfl) ?_ | refine W_if ?_ | refine WL_go (by kernel_rfl) (by kernel_rfl) ?_); simp (maxSteps := 4000000) only [vX, vB, vT, vZ, vcOps, isCall, mmV, lkV, muV, keyVal, keyVals, mget_nil, ↓selV_eq, stepOp, clV, biV, bnU, nilU, binV, bInt, bStr, bNilP, bNilS, bNilM, nilOp, D.nilPtr, D.nilSl, D.nilMap, isBoolTy, unV, cwV, cvV, elsP, partV, fieldsOf, fieldV, faV, iaV, ixV, ldC, ldV, stV, D.cells, putAt, bxV, alV, bldD, placesOf, allSized, bdV, bsV, rowsD, mkV, bdN, slV, newsP, TD.notInt, TD.agg, azV, clrV, cpyV, cpV, lenV, minV, maxV, ncV, exV, condV, retV, thenQ, blockQ, Value.oneCell', forall_const, true_implies, ne_eq, reduceCtorEq, false_implies, eq_self, if_true, if_false, ↓reduceIte, Nat.reduceEqDiff, Int.reduceLE, Int.reduceLT, Int.reduceNeg, Int.reduceToNat, Nat.reduceAdd, Nat.reduceMul, Nat.reduceLeDiff, Nat.reduceMod, Nat.reduceSub, Int.reduceEq, Int.reduceNe, Int.reduceAdd, Int.reduceSub, Int.reduceMul, implies_true, apV, hb]))
  intro b4 hb4
  obtain ⟨n43, hb4⟩ := Heap.upd_none.1 hb4
  obtain ⟨n42, hb4⟩ := Heap.upd_none.1 hb4
  (repeat (first | refine W_seq ?_ | refine W_block ?_ | refine W_skip ?_ | refine W_exit ?_ | refine W_ret ?_ | refine W_label ?_ | ((first | refine W_ops (by kernel_rfl) ?_ | refine W_if ?_ | refine WL_go (by kernel_rfl) (by kernel_rfl) ?_); simp (maxSteps := 4000000) only [vX, vB, vT, vZ, vcOps, isCall, mmV, lkV, muV, keyVal, keyVals, mget_nil, ↓selV_eq, stepOp, clV, biV, bnU, nilU, binV, bInt, bStr, bNilP, bNilS, bNilM, nilOp, D.nilPtr, D.nilSl, D.nilMap, isBoolTy, unV, cwV, cvV, elsP, partV, fieldsOf, fieldV, faV, iaV, ixV, ldC, ldV, stV, D.cells, putAt, bxV, alV, bldD, placesOf, allSized, bdV, bsV, rowsD, mkV, bdN, slV, newsP, TD.notInt, TD.agg, azV, clrV, cpyV, cpV, lenV, minV, maxV, ncV, exV, condV, retV, thenQ, blockQ, Value.oneCell', forall_const, true_implies, ne_eq, reduceCtorEq, false_implies, eq_self, if_true, if_false, ↓reduceIte, Nat.reduceEqDiff, Int.reduceLE, Int.reduceLT, Int.reduceNeg, Int.reduceToNat, Nat.reduceAdd, Nat.reduceMul, Nat.reduceLeDiff, Nat.reduceMod, Nat.reduceSub, Int.reduceEq, Int.reduceNe, Int.reduceAdd, Int.reduceSub, Int.reduceMul, implies_true, apV, hb])))
  refine (frames_N b _).mono ?_
  rintro d _ ⟨rfl, rfl⟩
  (repeat (first | refine W_seq ?_ | refine W_block ?_ | refine W_skip ?_ | refine W_exit ?_ | refine W_ret ?_ | refine W_label ?_ | ((first | refine W_ops (by kernel_rfl) ?_ | refine W_if ?_ | refine WL_go (by kernel_rfl) (by kernel_rfl) ?_); simp (maxSteps := 4000000) only [vX, vB, vT, vZ, vcOps, isCall, mmV, lkV, muV, keyVal, keyVals, mget_nil, ↓selV_eq, stepOp, clV, biV, bnU, nilU, binV, bInt, bStr, bNilP, bNilS, bNilM, nilOp, D.nilPtr, D.nilSl, D.nilMap, isBoolTy, unV, cwV, cvV, elsP, partV, fieldsOf, fieldV, faV, iaV, ixV, ldC, ldV, stV, D.cells, putAt, bxV, alV, bldD, placesOf, allSized, bdV, bsV, rowsD, mkV, bdN, slV, newsP, TD.notInt, TD.agg, azV, clrV, cpyV, cpV, lenV, minV, maxV, ncV, exV, condV, retV, thenQ, blockQ, Value.oneCell', forall_const, true_implies, ne_eq, reduceCtorEq, false_implies, eq_self, if_true, if_false, ↓reduceIte, Nat.reduceEqDiff, Int.reduceLE, Int.reduceLT, Int.reduceNeg, Int.reduceToNat, Nat.reduceAdd, Nat.reduceMul, Nat.reduceLeDiff, Nat.reduceMod, Nat.reduceSub, Int.reduceEq, Int.reduceNe, Int.reduceAdd, Int.reduceSub, Int.reduceMul, implies_true, apV, hb])))
  have hle0 : H.le (((H.upd b2 (.row 59 0 1 [[nilS]])).upd b3 (.row 31 0 1 [[i64 0]])).upd b4 (.row 59 0 1 [[nilS]])) :=
    Heap.le_new (Heap.le_new (Heap.le_new (Heap.le_refl _) hb2) (by rw [Heap.upd_ne n32]; exact hb3)) (by rw [Heap.upd_ne n43, Heap.upd_ne n42]; exact hb4)
  have e2 : (((H.upd b2 (.row 59 0 1 [[nilS]])).upd b3 (.row 31 0 1 [[i64 0]])).upd b4 (.row 59 0 1 [[nilS]])) b2 = some (.row 59 0 1 [[nilS]]) := by
    rw [Heap.upd_ne (Ne.symm n42), Heap.upd_ne (Ne.symm n32), Heap.upd_same]
  have e3 : (((H.upd b2 (.row 59 0 1 [[nilS]])).upd b3 (.row 31 0 1 [[i64 0]])).upd b4 (.row 59 0 1 [[nilS]])) b3 = some (.row 31 0 1 [[i64 0]]) := by
    rw [Heap.upd_ne (Ne.symm n43), Heap.upd_same]
  have e4 : (((H.upd b2 (.row 59 0 1 [[nilS]])).upd b3 (.row 31 0 1 [[i64 0]])).upd b4 (.row 59 0 1 [[nilS]])) b4 = some (.row 59 0 1 [[nilS]]) := Heap.upd_same _ _ _
  refine W_gen (fun s => s.df = [] ∧ s.fr 1 = .rp [.seq 1 (b.map bD)] ∧ s.fr 2 = .ep b2 0 1 0 0 ∧ s.fr 3 = .ep b3 0 1 0 0 ∧ s.fr 4 = .ep b4 0 1 0 0 ∧ s.fr 7 = .fn 83 [.rp [.seq 1 (b.map bD)]] ∧ H.le s.H ∧ s.H b2 = some (.row 59 0 1 [[nilS]]) ∧ s.H b3 = some (.row 31 0 1 [[i64 0]]) ∧ s.H b4 = some (.row 59 0 1 [[nilS]])) ⟨rfl, rfl, rfl, rfl, rfl, rfl, hle0, e2, e3, e4⟩ ?_
  clear hle0 e2 e3 e4
  rintro s ⟨hdf, f1, f2, f3, f4, f7, hle, e2, e3, e4⟩
  refine W_rangeFunc rfl (frames_it b (by omega)) f7 (fun _ _ => trivial) (by simp) (fun _ => rfl) (RdI H 2 111 59 (secD b) b2 b3 b4) (fun e _ => RdX H 59 (readF b).2 b2 b3 e) ?_ ?_ ?_ ?_ ?_ ?_
  · rintro pre H1 H2 hr ⟨h1, h2, h3, h4, x, ob, h5, h6, h7⟩
    refine ⟨h1, le_rle hno h2 hr, hr _ _ h3 (by simp), hr _ _ h4 (by simp), x, ob, hr _ _ h5 (by simp), ?_, h7⟩
    rcases h6 with h6 | ⟨c, o, g1, g2, g3, g4⟩
    · exact .inl h6
    · exact .inr ⟨c, o, g1, g2, g3, hr _ _ g4 (by simp)⟩
  · rintro e pre H1 H2 hr ⟨h1, h2, h3, h4, h5⟩
    exact ⟨h1, h2, le_rle hno h3 hr, hr _ _ h4 (by simp), hr _ _ h5 (by simp)⟩
  · exact ⟨by simp, hle, e2, e3, nilS, none, e4, Gl.nil _ _ _ _, by simp, by simp, by simp⟩
  · rintro l w1 pre x Hc o hpre ⟨g1, g2, g3, g4, xs, ob, g5, g6, g7, g8, g9⟩ hob hl
    rw [rst1]
    iterate 1 (first | refine W_seq ?_ | refine W_block ?_ | refine W_skip ?_ | refine W_exit ?_ | refine W_ret ?_ | refine W_label ?_ | ((first | refine W_ops (by kernel_rfl) ?_ | refine W_if ?_ | refine WL_go (by kernel_rfl) (by kernel_rfl) ?_); simp (maxSteps := 4000000) only [vX, vB, vT, vZ, vcOps, isCall, mmV, lkV, muV, keyVal, keyVals, mget_nil, ↓selV_eq, stepOp, clV, biV, bnU, nilU, binV, bInt, bStr, bNilP, bNilS, bNilM, nilOp, D.nilPtr, D.nilSl, D.nilMap, isBoolTy, unV, cwV, cvV, elsP, partV, fieldsOf, fieldV, faV, iaV, ixV, ldC, ldV, stV, D.cells, putAt, bxV, alV, bldD, placesOf, allSized, bdV, bsV, rowsD, mkV, bdN, slV, newsP, TD.notInt, TD.agg, azV, clrV, cpyV, cpV, lenV, minV, maxV, ncV, exV, condV, retV, thenQ, blockQ, Value.oneCell', forall_const, true_implies, ne_eq, reduceCtorEq, false_implies, eq_self, if_true, if_false, ↓reduceIte, Nat.reduceEqDiff, Int.reduceLE, Int.reduceLT, Int.reduceNeg, Int.reduceToNat, Nat.reduceAdd, Nat.reduceMul, Nat.reduceLeDiff, Nat.reduceMod, Nat.reduceSub, Int.reduceEq, Int.reduceNe, Int.reduceAdd, Int.reduceSub, Int.reduceMul, implies_true, apV, frD, i64, wdf_fr, wdf_H, wdf_df, wdf_withH, hdf]))
    intro b5 hb5
    refine ⟨objs.new (objs_refl _) hb5, fun w2 y => ?_⟩
    have n5 : ∀ c x, Hc c = some x → c ≠ b5 := fun c x h e => by rw [e, hb5] at h; cases h
    have nl : ∀ c t o sz els, Hc c = some (.row t o sz els) → c ≠ l := fun c t o sz els h e => by rw [e, hl] at h; cases h
    have n2 := nl _ _ _ _ _ g3
    have n3 := nl _ _ _ _ _ g4
    have n4 := nl _ _ _ _ _ g5
    have l5 := n5 _ _ hl
    refine W_frzp 5 rfl (b := b5) (by simp only [put_H, wdf_H, withH_H]; rw [Heap.upd_ne (Ne.symm l5), Heap.upd_same]) rfl ?_
    simp only [St.frzp, put_H, wdf_H, withH_H, withH_put, wdf_withH, withH_withH, Heap.del_upd_ne (Ne.symm l5), Heap.del_upd_same, Heap.del_none hb5]
    have hno5 := fun (x : HObj) (hx : ∀ o, x ≠ .obj o) => objs_drop (H := Hc) (b := b5) (l := l) (y := y) hx
    rcases frs_pre hpre with ⟨hx, hm⟩ | ⟨hx, hx2⟩
    · have q1 : ((x.2 : Int) = 0) = True := eq_true (by omega)
      (repeat (first | refine W_seq ?_ | refine W_block ?_ | refine W_skip ?_ | refine W_exit ?_ | refine W_ret ?_ | refine W_label ?_ | ((first | refine W_ops (by kernel_rfl) ?_ | refine W_if ?_ | refine WL_go (by kernel_rfl) (by kernel_rfl) ?_); simp (maxSteps := 4000000) only [vX, vB, vT, vZ, vcOps, isCall, mmV, lkV, muV, keyVal, keyVals, mget_nil, ↓selV_eq, stepOp, clV, biV, bnU, nilU, binV, bInt, bStr, bNilP, bNilS, bNilM, nilOp, D.nilPtr, D.nilSl, D.nilMap, isBoolTy, unV, cwV, cvV, elsP, partV, fieldsOf, fieldV, faV, iaV, ixV, ldC, ldV, stV, D.cells, putAt, bxV, alV, bldD, placesOf, allSized, bdV, bsV, rowsD, mkV, bdN, slV, newsP, TD.notInt, TD.agg, azV, clrV, cpyV, cpV, lenV, minV, maxV, ncV, exV, condV, retV, thenQ, blockQ, Value.oneCell', forall_const, true_implies, ne_eq, reduceCtorEq, false_implies, eq_self, if_true, if_false, ↓reduceIte, Nat.reduceEqDiff, Int.reduceLE, Int.reduceLT, Int.reduceNeg, Int.reduceToNat, Nat.reduceAdd, Nat.reduceMul, Nat.reduceLeDiff, Nat.reduceMod, Nat.reduceSub, Int.reduceEq, Int.reduceNe, Int.reduceAdd, Int.reduceSub, Int.reduceMul, implies_true, apV, wdf_fr, wdf_H, wdf_df, wdf_withH, q1, thenQ_n])))
      simp only [thenQ_n]
      have hin := readF_in hm
      have hlen : (((b.drop x.1.fr).take (x.1.to - x.1.fr)).length : Int) ≤ 140737488355328 := by rw [List.length_take, List.length_drop]; omega
      have hcut : List.drop x.1.fr (List.take x.1.to (b.map bD)) = ((b.drop x.1.fr).take (x.1.to - x.1.fr)).map bD := by
        rw [List.drop_take, List.map_take, List.map_drop]
      refine W_wild (fun t => decide (t = some 16 ∨ t = some 17 ∨ t = some 19 ∨ t = some 21 ∨ t = some 22)) (fun _ => false) (fun _ _ d A => A = .none ∧ d = .seq 1 (((b.drop x.1.fr).take (x.1.to - x.1.fr)).map bD)) (fun _ _ _ _ _ => False) (by kernel_rfl) (by kernel_rfl) (by kernel_rfl) (by kernel_rfl) (by kernel_rfl) ?_; simp (maxSteps := 4000000) only [vX, vB, vT, vZ, vcOps, isCall, mmV, lkV, muV, keyVal, keyVals, mget_nil, ↓selV_eq, stepOp, clV, biV, bnU, nilU, binV, bInt, bStr, bNilP, bNilS, bNilM, nilOp, D.nilPtr, D.nilSl, D.nilMap, isBoolTy, unV, cwV, cvV, elsP, partV, fieldsOf, fieldV, faV, iaV, ixV, ldC, ldV, stV, D.cells, putAt, bxV, alV, bldD, placesOf, allSized, bdV, bsV, rowsD, mkV, bdN, slV, newsP, TD.notInt, TD.agg, azV, clrV, cpyV, cpV, lenV, minV, maxV, ncV, exV, condV, retV, thenQ, blockQ, Value.oneCell', forall_const, true_implies, ne_eq, reduceCtorEq, false_implies, eq_self, if_true, if_false, ↓reduceIte, Nat.reduceEqDiff, Int.reduceLE, Int.reduceLT, Int.reduceNeg, Int.reduceToNat, Nat.reduceAdd, Nat.reduceMul, Nat.reduceLeDiff, Nat.reduceMod, Nat.reduceSub, Int.reduceEq, Int.reduceNe, Int.reduceAdd, Int.reduceSub, Int.reduceMul, implies_true, wdf_fr, wdf_H, wdf_df, wdf_withH, thenQ_n, thenQ_r, blockQ_n, blockQ_r, roundQ_n, roundQ_r, noGotoQ_n, noGotoQ_r, noGotoQ_e, vcW, hOf, fzOp, Bool.false_and, isWild, gW, wildOp, gOp, calmOp, St.out, St.outW, Heap.add_none, Heap.add_upd, disj_upd_iff, disj_none_eq, Option.some.injEq, or_true, true_or, or_false, false_or, ↓calmEq, ↓wildEq, f1, f2, f3, f4, Heap.upd_ne n4, g5, hcut, List.length_map]
      refine ⟨by omega, by omega, by omega, callOK_of (fun H'' _ => cloneS_N _ H'' (by omega)) (fun H'' d H' hh => ⟨.none, Disj.none _, hh.2.symm, rfl, hh.1⟩), ?_⟩
      have g6' : Gl H 111 2 (pre.map fun y => secD b y.1) xs (Hc.upd l (.obj y)) ob := g6.keep fun c h => Heap.upd_ne fun e => by
        rcases g6 with g6 | ⟨c', o', h1, _, _, h2⟩
        · rw [g6.1] at h; cases h
        · rw [h1] at h; injection h with h; rw [h, e, hl] at h2; cases h2
      have hpl : pre.length + 1 ≤ b.length + 1 := by
        have h1 := hpre.length_le
        have h2 := frs_len b
        rw [List.length_append, List.length_singleton] at h1
        omega
      refine apV_grow (e := 111) ty59 rfl ty59 rfl ty111 rfl (by decide) (le_rle hno g2 (rle_obj hl)) g6' (new := [secD b x.1]) ?_ (by rw [List.length_map]; show (pre.length + 1) * 32 ≤ _; omega) fun d H' ob' hg hle' hp => ?_
      · simp only [newsP, elsP, secD, i64]
        exact ⟨trivial, trivial⟩
      have hcs := hg.cells
      simp only [D.cells] at hcs
      have q2 := hp _ _ ((Heap.upd_ne n2).trans g3) g7
      have q3 := hp _ _ ((Heap.upd_ne n3).trans g4) g8
      have q4 := hp _ _ ((Heap.upd_ne n4).trans g5) g9
      simp (maxSteps := 4000000) only [vX, vB, vT, vZ, vcOps, isCall, mmV, lkV, muV, keyVal, keyVals, mget_nil, ↓selV_eq, stepOp, clV, biV, bnU, nilU, binV, bInt, bStr, bNilP, bNilS, bNilM, nilOp, D.nilPtr, D.nilSl, D.nilMap, isBoolTy, unV, cwV, cvV, elsP, partV, fieldsOf, fieldV, faV, iaV, ixV, ldC, ldV, stV, D.cells, putAt, bxV, alV, bldD, placesOf, allSized, bdV, bsV, rowsD, mkV, bdN, slV, newsP, TD.notInt, TD.agg, azV, clrV, cpyV, cpV, lenV, minV, maxV, ncV, exV, condV, retV, thenQ, blockQ, Value.oneCell', forall_const, true_implies, ne_eq, reduceCtorEq, false_implies, eq_self, if_true, if_false, ↓reduceIte, Nat.reduceEqDiff, Int.reduceLE, Int.reduceLT, Int.reduceNeg, Int.reduceToNat, Nat.reduceAdd, Nat.reduceMul, Nat.reduceLeDiff, Nat.reduceMod, Nat.reduceSub, Int.reduceEq, Int.reduceNe, Int.reduceAdd, Int.reduceSub, Int.reduceMul, implies_true, wdf_fr, wdf_H, wdf_df, wdf_withH, thenQ_n, thenQ_r, blockQ_n, blockQ_r, roundQ_n, roundQ_r, noGotoQ_n, noGotoQ_r, noGotoQ_e, vcW, hOf, fzOp, Bool.false_and, isWild, gW, wildOp, gOp, calmOp, St.out, St.outW, Heap.add_none, Heap.add_upd, disj_upd_iff, disj_none_eq, Option.some.injEq, or_true, true_or, or_false, false_or, ↓calmEq, ↓wildEq, hcs, q4.1]
      refine ⟨(objs_grow (hno5 _ (by simp)) g6' hp).row q4.1 (by simp), ?_, Heap.le_put hle' hb4, (Heap.upd_ne (Ne.symm n42)).trans q2.1, (Heap.upd_ne (Ne.symm n43)).trans q3.1, d, ob', Heap.upd_same _ _ _, ?_, q2.2, q3.2, q4.2⟩
      · intro z hz
        rcases List.mem_append.1 hz with hz | hz
        · exact g1 z hz
        · rw [List.mem_singleton] at hz; rw [hz]; exact hx
      · rw [List.map_append]
        exact hg.keep fun c h => Heap.upd_ne fun e => q4.2 (by rw [h, e])
    · have q1 : ((x.2 : Int) = 0) = False := eq_false (by omega)
      (repeat (first | refine W_seq ?_ | refine W_block ?_ | refine W_skip ?_ | refine W_exit ?_ | refine W_ret ?_ | refine W_label ?_ | ((first | refine W_ops (by kernel_rfl) ?_ | refine W_if ?_ | refine WL_go (by kernel_rfl) (by kernel_rfl) ?_); simp (maxSteps := 4000000) only [vX, vB, vT, vZ, vcOps, isCall, mmV, lkV, muV, keyVal, keyVals, mget_nil, ↓selV_eq, stepOp, clV, biV, bnU, nilU, binV, bInt, bStr, bNilP, bNilS, bNilM, nilOp, D.nilPtr, D.nilSl, D.nilMap, isBoolTy, unV, cwV, cvV, elsP, partV, fieldsOf, fieldV, faV, iaV, ixV, ldC, ldV, stV, D.cells, putAt, bxV, alV, bldD, placesOf, allSized, bdV, bsV, rowsD, mkV, bdN, slV, newsP, TD.notInt, TD.agg, azV, clrV, cpyV, cpV, lenV, minV, maxV, ncV, exV, condV, retV, thenQ, blockQ, Value.oneCell', forall_const, true_implies, ne_eq, reduceCtorEq, false_implies, eq_self, if_true, if_false, ↓reduceIte, Nat.reduceEqDiff, Int.reduceLE, Int.reduceLT, Int.reduceNeg, Int.reduceToNat, Nat.reduceAdd, Nat.reduceMul, Nat.reduceLeDiff, Nat.reduceMod, Nat.reduceSub, Int.reduceEq, Int.reduceNe, Int.reduceAdd, Int.reduceSub, Int.reduceMul, implies_true, apV, wdf_fr, wdf_H, wdf_df, wdf_withH, q1, thenQ_n])))
      refine W_wild (fun t => decide (t = some 13)) (fun _ => false) (fun _ _ _ _ => False) (fun _ _ _ _ _ => False) (by kernel_rfl) (by kernel_rfl) (by kernel_rfl) (by kernel_rfl) (by kernel_rfl) ?_; simp (maxSteps := 4000000) only [vX, vB, vT, vZ, vcOps, isCall, mmV, lkV, muV, keyVal, keyVals, mget_nil, ↓selV_eq, stepOp, clV, biV, bnU, nilU, binV, bInt, bStr, bNilP, bNilS, bNilM, nilOp, D.nilPtr, D.nilSl, D.nilMap, isBoolTy, unV, cwV, cvV, elsP, partV, fieldsOf, fieldV, faV, iaV, ixV, ldC, ldV, stV, D.cells, putAt, bxV, alV, bldD, placesOf, allSized, bdV, bsV, rowsD, mkV, bdN, slV, newsP, TD.notInt, TD.agg, azV, clrV, cpyV, cpV, lenV, minV, maxV, ncV, exV, condV, retV, thenQ, blockQ, Value.oneCell', forall_const, true_implies, ne_eq, reduceCtorEq, false_implies, eq_self, if_true, if_false, ↓reduceIte, Nat.reduceEqDiff, Int.reduceLE, Int.reduceLT, Int.reduceNeg, Int.reduceToNat, Nat.reduceAdd, Nat.reduceMul, Nat.reduceLeDiff, Nat.reduceMod, Nat.reduceSub, Int.reduceEq, Int.reduceNe, Int.reduceAdd, Int.reduceSub, Int.reduceMul, implies_true, wdf_fr, wdf_H, wdf_df, wdf_withH, thenQ_n, thenQ_r, blockQ_n, blockQ_r, roundQ_n, roundQ_r, noGotoQ_n, noGotoQ_r, noGotoQ_e, vcW, hOf, fzOp, Bool.false_and, isWild, gW, wildOp, gOp, calmOp, St.out, St.outW, Heap.add_none, Heap.add_upd, disj_upd_iff, disj_none_eq, Option.some.injEq, or_true, true_or, or_false, false_or, ↓calmEq, ↓wildEq, f2, f3, Heap.upd_ne n2, Heap.upd_ne n3, Heap.upd_ne n32, g3, g4]
      refine W_ret ?_
      simp (maxSteps := 4000000) only [vX, vB, vT, vZ, vcOps, isCall, mmV, lkV, muV, keyVal, keyVals, mget_nil, ↓selV_eq, stepOp, clV, biV, bnU, nilU, binV, bInt, bStr, bNilP, bNilS, bNilM, nilOp, D.nilPtr, D.nilSl, D.nilMap, isBoolTy, unV, cwV, cvV, elsP, partV, fieldsOf, fieldV, faV, iaV, ixV, ldC, ldV, stV, D.cells, putAt, bxV, alV, bldD, placesOf, allSized, bdV, bsV, rowsD, mkV, bdN, slV, newsP, TD.notInt, TD.agg, azV, clrV, cpyV, cpV, lenV, minV, maxV, ncV, exV, condV, retV, thenQ, blockQ, Value.oneCell', forall_const, true_implies, ne_eq, reduceCtorEq, false_implies, eq_self, if_true, if_false, ↓reduceIte, Nat.reduceEqDiff, Int.reduceLE, Int.reduceLT, Int.reduceNeg, Int.reduceToNat, Nat.reduceAdd, Nat.reduceMul, Nat.reduceLeDiff, Nat.reduceMod, Nat.reduceSub, Int.reduceEq, Int.reduceNe, Int.reduceAdd, Int.reduceSub, Int.reduceMul, implies_true, wdf_fr, wdf_H, wdf_df, wdf_withH, thenQ_n, thenQ_r, blockQ_n, blockQ_r, roundQ_n, roundQ_r, noGotoQ_n, noGotoQ_r, noGotoQ_e, vcW, hOf, fzOp, Bool.false_and, isWild, gW, wildOp, gOp, calmOp, St.out, St.outW, Heap.add_none, Heap.add_upd, disj_upd_iff, disj_none_eq, Option.some.injEq, or_true, true_or, or_false, false_or, ↓calmEq, ↓wildEq, i64]
      refine ⟨((hno5 _ (by simp)).row (y := .row 59 0 1 [[nilS]]) ((Heap.upd_ne n2).trans g3) (by simp)).row (y := .row 31 0 1 [[i64 0]]) ((Heap.upd_ne n32).trans ((Heap.upd_ne n3).trans g4)) (by simp), rfl, by omega, ?_, (Heap.upd_ne (Ne.symm n32)).trans (Heap.upd_same _ _ _), by rw [Heap.upd_same, hx2]; rfl⟩
      exact Heap.le_put (Heap.le_put (le_rle hno g2 (rle_obj hl)) hb2) hb3
  · rintro Hc M ⟨g1, g2, g3, g4, xs, ob, g5, g6, g7, g8, g9⟩ hob hD hDn
    rw [df_wdf, blockQ_n, thenQ_n, hdf]
    have g3' : ∀ x, (Hc.upd b2 x) b3 = some (.row 31 0 1 [[i64 0]]) := fun x => (Heap.upd_ne n32).trans g4
    have hcs := g6.cells
    simp only [D.cells] at hcs
    have hM2 : b2 ≠ M := fun e => by rw [e, hD] at g3; cases g3
    have hM3 : b3 ≠ M := fun e => by rw [e, hD] at g4; cases g4
    (repeat (first | refine W_seq ?_ | refine W_block ?_ | refine W_skip ?_ | refine W_exit ?_ | refine W_ret ?_ | refine W_label ?_ | refine W_scope ?_ | ((first | refine W_ops (by kernel_rfl) ?_ | refine W_if ?_ | refine WL_go (by kernel_rfl) (by kernel_rfl) ?_); simp (maxSteps := 4000000) only [vX, vB, vT, vZ, vcOps, isCall, mmV, lkV, muV, keyVal, keyVals, mget_nil, ↓selV_eq, stepOp, clV, biV, bnU, nilU, binV, bInt, bStr, bNilP, bNilS, bNilM, nilOp, D.nilPtr, D.nilSl, D.nilMap, isBoolTy, unV, cwV, cvV, elsP, partV, fieldsOf, fieldV, faV, iaV, ixV, ldC, ldV, stV, D.cells, putAt, bxV, alV, bldD, placesOf, allSized, bdV, bsV, rowsD, mkV, bdN, slV, newsP, TD.notInt, TD.agg, azV, clrV, cpyV, cpV, lenV, minV, maxV, ncV, exV, condV, retV, thenQ, blockQ, Value.oneCell', forall_const, true_implies, ne_eq, reduceCtorEq, false_implies, eq_self, if_true, if_false, ↓reduceIte, Nat.reduceEqDiff, Int.reduceLE, Int.reduceLT, Int.reduceNeg, Int.reduceToNat, Nat.reduceAdd, Nat.reduceMul, Nat.reduceLeDiff, Nat.reduceMod, Nat.reduceSub, Int.reduceEq, Int.reduceNe, Int.reduceAdd, Int.reduceSub, Int.reduceMul, implies_true, wdf_fr, wdf_H, wdf_df, wdf_withH, thenQ_n, thenQ_r, blockQ_n, blockQ_r, roundQ_n, roundQ_r, noGotoQ_n, noGotoQ_r, noGotoQ_e, f2, f3, f4, g5, g3, g3', hcs])))
    refine hret _ _ (.inr rfl) ?_ ?_
    · simp (maxSteps := 4000000) only [vX, vB, vT, vZ, vcOps, isCall, mmV, lkV, muV, keyVal, keyVals, mget_nil, ↓selV_eq, stepOp, clV, biV, bnU, nilU, binV, bInt, bStr, bNilP, bNilS, bNilM, nilOp, D.nilPtr, D.nilSl, D.nilMap, isBoolTy, unV, cwV, cvV, elsP, partV, fieldsOf, fieldV, faV, iaV, ixV, ldC, ldV, stV, D.cells, putAt, bxV, alV, bldD, placesOf, allSized, bdV, bsV, rowsD, mkV, bdN, slV, newsP, TD.notInt, TD.agg, azV, clrV, cpyV, cpV, lenV, minV, maxV, ncV, exV, condV, retV, thenQ, blockQ, Value.oneCell', forall_const, true_implies, ne_eq, reduceCtorEq, false_implies, eq_self, if_true, if_false, ↓reduceIte, Nat.reduceEqDiff, Int.reduceLE, Int.reduceLT, Int.reduceNeg, Int.reduceToNat, Nat.reduceAdd, Nat.reduceMul, Nat.reduceLeDiff, Nat.reduceMod, Nat.reduceSub, Int.reduceEq, Int.reduceNe, Int.reduceAdd, Int.reduceSub, Int.reduceMul, implies_true, wdf_fr, wdf_H, wdf_df, wdf_withH, thenQ_n, thenQ_r, blockQ_n, blockQ_r, roundQ_n, roundQ_r, noGotoQ_n, noGotoQ_r, noGotoQ_e, f2]
      refine mk1 ?_
      rw [Heap.upd_ne (Ne.symm hM3), Heap.upd_ne (Ne.symm hM2)]; exact hD
    · simp (maxSteps := 4000000) only [vX, vB, vT, vZ, vcOps, isCall, mmV, lkV, muV, keyVal, keyVals, mget_nil, ↓selV_eq, stepOp, clV, biV, bnU, nilU, binV, bInt, bStr, bNilP, bNilS, bNilM, nilOp, D.nilPtr, D.nilSl, D.nilMap, isBoolTy, unV, cwV, cvV, elsP, partV, fieldsOf, fieldV, faV, iaV, ixV, ldC, ldV, stV, D.cells, putAt, bxV, alV, bldD, placesOf, allSized, bdV, bsV, rowsD, mkV, bdN, slV, newsP, TD.notInt, TD.agg, azV, clrV, cpyV, cpV, lenV, minV, maxV, ncV, exV, condV, retV, thenQ, blockQ, Value.oneCell', forall_const, true_implies, ne_eq, reduceCtorEq, false_implies, eq_self, if_true, if_false, ↓reduceIte, Nat.reduceEqDiff, Int.reduceLE, Int.reduceLT, Int.reduceNeg, Int.reduceToNat, Nat.reduceAdd, Nat.reduceMul, Nat.reduceLeDiff, Nat.reduceMod, Nat.reduceSub, Int.reduceEq, Int.reduceNe, Int.reduceAdd, Int.reduceSub, Int.reduceMul, implies_true, wdf_fr, wdf_H, wdf_df, wdf_withH, thenQ_n, thenQ_r, blockQ_n, blockQ_r, roundQ_n, roundQ_r, noGotoQ_n, noGotoQ_r, noGotoQ_e, f2]
      rw [offM1]
      simp (maxSteps := 4000000) only [vX, vB, vT, vZ, vcOps, isCall, mmV, lkV, muV, keyVal, keyVals, mget_nil, ↓selV_eq, stepOp, clV, biV, bnU, nilU, binV, bInt, bStr, bNilP, bNilS, bNilM, nilOp, D.nilPtr, D.nilSl, D.nilMap, isBoolTy, unV, cwV, cvV, elsP, partV, fieldsOf, fieldV, faV, iaV, ixV, ldC, ldV, stV, D.cells, putAt, bxV, alV, bldD, placesOf, allSized, bdV, bsV, rowsD, mkV, bdN, slV, newsP, TD.notInt, TD.agg, azV, clrV, cpyV, cpV, lenV, minV, maxV, ncV, exV, condV, retV, thenQ, blockQ, Value.oneCell', forall_const, true_implies, ne_eq, reduceCtorEq, false_implies, eq_self, if_true, if_false, ↓reduceIte, Nat.reduceEqDiff, Int.reduceLE, Int.reduceLT, Int.reduceNeg, Int.reduceToNat, Nat.reduceAdd, Nat.reduceMul, Nat.reduceLeDiff, Nat.reduceMod, Nat.reduceSub, Int.reduceEq, Int.reduceNe, Int.reduceAdd, Int.reduceSub, Int.reduceMul, implies_true, wdf_fr, wdf_H, wdf_df, wdf_withH, thenQ_n, thenQ_r, blockQ_n, blockQ_r, roundQ_n, roundQ_r, noGotoQ_n, noGotoQ_r, noGotoQ_e, f2, f3, Heap.upd_ne hM2, Heap.upd_ne hM3, Heap.upd_ne (Ne.symm n32)]
      obtain ⟨h0, hall⟩ := frs_all g1
      rw [h0, if_pos rfl]
      rw [hall, List.map_map] at g6
      obtain ⟨H', h1, h2⟩ := Gl.fin (H0 := H) (H := ((Hc.upd b2 (.row 59 0 1 [[xs]])).upd b3 (.row 31 0 1 [[i64 0]])).upd M .hid) (g6.keep fun c h => by
        rw [Heap.upd_ne (fun e => ?_), Heap.upd_ne (fun e => g8 (by rw [h, e])), Heap.upd_ne (fun e => g7 (by rw [h, e]))]
        rcases g6 with g6 | ⟨c', o', h1, _, _, h2⟩
        · rw [g6.1] at h; cases h
        · rw [h1] at h; injection h with h; rw [h, e, hD] at h2; cases h2) (Heap.le_put (Heap.le_put (Heap.le_put g2 hb2) hb3) (Heap.none_of hle hDn))
      exact ⟨H', h1, _, _, H, rfl, ⟨rfl, rfl⟩, h2⟩
  · rintro e c pre Hc M hj ⟨rfl, h2, h3, h4, h5⟩ hob hD hDn
    rw [df_wdf, hdf]
    simp (maxSteps := 4000000) only [vX, vB, vT, vZ, vcOps, isCall, mmV, lkV, muV, keyVal, keyVals, mget_nil, ↓selV_eq, stepOp, clV, biV, bnU, nilU, binV, bInt, bStr, bNilP, bNilS, bNilM, nilOp, D.nilPtr, D.nilSl, D.nilMap, isBoolTy, unV, cwV, cvV, elsP, partV, fieldsOf, fieldV, faV, iaV, ixV, ldC, ldV, stV, D.cells, putAt, bxV, alV, bldD, placesOf, allSized, bdV, bsV, rowsD, mkV, bdN, slV, newsP, TD.notInt, TD.agg, azV, clrV, cpyV, cpV, lenV, minV, maxV, ncV, exV, condV, retV, thenQ, blockQ, Value.oneCell', forall_const, true_implies, ne_eq, reduceCtorEq, false_implies, eq_self, if_true, if_false, ↓reduceIte, Nat.reduceEqDiff, Int.reduceLE, Int.reduceLT, Int.reduceNeg, Int.reduceToNat, Nat.reduceAdd, Nat.reduceMul, Nat.reduceLeDiff, Nat.reduceMod, Nat.reduceSub, Int.reduceEq, Int.reduceNe, Int.reduceAdd, Int.reduceSub, Int.reduceMul, implies_true, wdf_fr, wdf_H, wdf_df, wdf_withH, thenQ_n, thenQ_r, blockQ_n, blockQ_r, roundQ_n, roundQ_r, noGotoQ_n, noGotoQ_r, noGotoQ_e, f2]
    refine hret _ _ (.inr rfl) ?_ ?_
    · simp (maxSteps := 4000000) only [vX, vB, vT, vZ, vcOps, isCall, mmV, lkV, muV, keyVal, keyVals, mget_nil, ↓selV_eq, stepOp, clV, biV, bnU, nilU, binV, bInt, bStr, bNilP, bNilS, bNilM, nilOp, D.nilPtr, D.nilSl, D.nilMap, isBoolTy, unV, cwV, cvV, elsP, partV, fieldsOf, fieldV, faV, iaV, ixV, ldC, ldV, stV, D.cells, putAt, bxV, alV, bldD, placesOf, allSized, bdV, bsV, rowsD, mkV, bdN, slV, newsP, TD.notInt, TD.agg, azV, clrV, cpyV, cpV, lenV, minV, maxV, ncV, exV, condV, retV, thenQ, blockQ, Value.oneCell', forall_const, true_implies, ne_eq, reduceCtorEq, false_implies, eq_self, if_true, if_false, ↓reduceIte, Nat.reduceEqDiff, Int.reduceLE, Int.reduceLT, Int.reduceNeg, Int.reduceToNat, Nat.reduceAdd, Nat.reduceMul, Nat.reduceLeDiff, Nat.reduceMod, Nat.reduceSub, Int.reduceEq, Int.reduceNe, Int.reduceAdd, Int.reduceSub, Int.reduceMul, implies_true, wdf_fr, wdf_H, wdf_df, wdf_withH, thenQ_n, thenQ_r, blockQ_n, blockQ_r, roundQ_n, roundQ_r, noGotoQ_n, noGotoQ_r, noGotoQ_e, f2]
      exact mk1 hD
    · rw [wdf_df, offM1]
      have hD2 : b2 ≠ M := fun e => by rw [e, hD] at h4; cases h4
      have hD3 : b3 ≠ M := fun e => by rw [e, hD] at h5; cases h5
      simp (maxSteps := 4000000) only [vX, vB, vT, vZ, vcOps, isCall, mmV, lkV, muV, keyVal, keyVals, mget_nil, ↓selV_eq, stepOp, clV, biV, bnU, nilU, binV, bInt, bStr, bNilP, bNilS, bNilM, nilOp, D.nilPtr, D.nilSl, D.nilMap, isBoolTy, unV, cwV, cvV, elsP, partV, fieldsOf, fieldV, faV, iaV, ixV, ldC, ldV, stV, D.cells, putAt, bxV, alV, bldD, placesOf, allSized, bdV, bsV, rowsD, mkV, bdN, slV, newsP, TD.notInt, TD.agg, azV, clrV, cpyV, cpV, lenV, minV, maxV, ncV, exV, condV, retV, thenQ, blockQ, Value.oneCell', forall_const, true_implies, ne_eq, reduceCtorEq, false_implies, eq_self, if_true, if_false, ↓reduceIte, Nat.reduceEqDiff, Int.reduceLE, Int.reduceLT, Int.reduceNeg, Int.reduceToNat, Nat.reduceAdd, Nat.reduceMul, Nat.reduceLeDiff, Nat.reduceMod, Nat.reduceSub, Int.reduceEq, Int.reduceNe, Int.reduceAdd, Int.reduceSub, Int.reduceMul, implies_true, wdf_fr, wdf_H, wdf_df, wdf_withH, thenQ_n, thenQ_r, blockQ_n, blockQ_r, roundQ_n, roundQ_r, noGotoQ_n, noGotoQ_r, noGotoQ_e, f2, f3, Heap.upd_ne hD2, Heap.upd_ne hD3, h4, h5, nilS, i64]
      refine ⟨H, ?_, _, _, H, rfl, ⟨rfl, rfl⟩, ?_⟩
      · exact Heap.le_put h3 (Heap.none_of hle hDn)
      · rw [if_neg h2]
        exact .inl ⟨rfl, rfl, rfl⟩
def spD (x : Sec) : List D := [i64 x.fr, i64 x.to]
set_option maxRecDepth 100000 in
theorem spans_N (b : List UInt8) (H : Heap) (hno : ∀ b o, H b ≠ some (.obj o)) (hb : b.length ≤ 1000000000) : Does Try.prog 46 [.seq 1 (b.map bD)] H fun d H' => ∃ v, d = .tup [.seq 2 ((if (readF b).2 = 0 then (readF b).1 else []).map spD), .val v] ∧ v = .int .i64 (readF b).2 ∧ H = H' := by
  refine Does.seqT (J := fun v H' => v = .int .i64 (readF b).2 ∧ H = H') ?_
  refine does_ofM _ _ Try.func46 rfl rfl Try.ntmps46 Try.results46 (by simp only [List.length_cons, List.length_nil]; omega) fun w0 Q hret => ?_
  iterate 2 (first | refine W_seq ?_ | refine W_block ?_ | refine W_skip ?_ | refine W_exit ?_ | refine W_ret ?_ | refine W_label ?_ | ((first | refine W_ops (by kernel_rfl) ?_ | refine W_if ?_ | refine WL_go (by kernel_rfl) (by kernel_rfl) ?_); simp (maxSteps := 4000000) only [vX, vB, vT, vZ, vcOps, isCall, mmV, lkV, muV, keyVal, keyVals, mget_nil, ↓selV_eq, stepOp, clV, biV, bnU, nilU, binV, bInt, bStr, bNilP, bNilS, bNilM, nilOp, D.nilPtr, D.nilSl, D.nilMap, isBoolTy, unV, cwV, cvV, elsP, partV, fieldsOf, fieldV, faV, iaV, ixV, ldC, ldV, stV, D.cells, putAt, bxV, alV, bldD, placesOf, allSized, bdV, bsV, rowsD, mkV, bdN, slV, newsP, TD.notInt, TD.agg, azV, clrV, cpyV, cpV, lenV, minV, maxV, ncV, exV, condV, retV, thenQ, blockQ, Value.oneCell', forall_const, true_implies, ne_eq, reduceCtorEq, false_implies, eq_self, if_true, if_false, ↓reduceIte, Nat.reduceEqDiff, Int.reduceLE, Int.reduceLT, Int.reduceNeg, Int.reduceToNat, Nat.reduceAdd, Nat.reduceMul, Nat.reduceLeDiff, Nat.reduceMod, Nat.reduceSub, Int.reduceEq, Int.reduceNe, Int.reduceAdd, Int.reduceSub, Int.reduceMul, implies_true, apV, hb]))
  intro b2 hb2 b3 hb3
  obtain ⟨n32, hb3⟩ := Heap.upd_none.1 hb3
  iterate 2 (first | refine W_seq ?_ | refine W_block ?_ | refine W_skip ?_ | refine W_exit ?_ | refine W_ret ?_ | refine W_label ?_ | ((first | refine W_ops (by kernel_rfl) ?_ | refine W_if ?_ | refine WL_go (by kernel_rfl) (by kernel_rfl) ?_); simp (maxSteps := 4000000) only [vX, vB, vT, vZ, vcOps, isCall, mmV, lkV, muV, keyVal, keyVals, mget_nil, ↓selV_eq, stepOp, clV, biV, bnU, nilU, binV, bInt, bStr, bNilP, bNilS, bNilM, nilOp, D.nilPtr, D.nilSl, D.nilMap, isBoolTy, unV, cwV, cvV, elsP, partV, fieldsOf, fieldV, faV, iaV, ixV, ldC, ldV, stV, D.cells, putAt, bxV, alV, bldD, placesOf, allSized, bdV, bsV, rowsD, mkV, bdN, slV, newsP, TD.notInt, TD.agg, azV, clrV, cpyV, cpV, lenV, minV, maxV, ncV, exV, condV, retV, thenQ, blockQ, Value.oneCell', forall_const, true_implies, ne_eq, reduceCtorEq, false_implies, eq_self, if_true, if_false, ↓reduceIte, Nat.reduceEqDiff, Int.reduceLE, Int.reduceLT, Int.reduceNeg, Int.reduceToNat, Nat.reduceAdd, Nat.reduceMul, Nat.reduceLeDiff, Nat.reduceMod, Nat.reduceSub, Int.reduceEq, Int.reduceNe, Int.reduceAdd, Int.reduceSub, Int.reduceMul, implies_true, apV, hb]))
  intro b4 hb4
  obtain ⟨n43, hb4⟩ := Heap.upd_none.1 hb4
  obtain ⟨n42, hb4⟩ := Heap.upd_none.1 hb4
  (repeat (first | refine W_seq ?_ | refine W_block ?_ | refine W_skip ?_ | refine W_exit ?_ | refine W_ret ?_ | refine W_label ?_ | ((first | refine W_ops (by kernel_rfl) ?_ | refine W_if ?_ | refine WL_go (by kernel_rfl) (by kernel_rfl) ?_); simp (maxSteps := 4000000) only [vX, vB, vT, vZ, vcOps, isCall, mmV, lkV, muV, keyVal, keyVals, mget_nil, ↓selV_eq, stepOp, clV, biV, bnU, nilU, binV, bInt, bStr, bNilP, bNilS, bNilM, nilOp, D.nilPtr, D.nilSl, D.nilMap, isBoolTy, unV, cwV, cvV, elsP, partV, fieldsOf, fieldV, faV, iaV, ixV, ldC, ldV, stV, D.cells, putAt, bxV, alV, bldD, placesOf, allSized, bdV, bsV, rowsD, mkV, bdN, slV, newsP, TD.notInt, TD.agg, azV, clrV, cpyV, cpV, lenV, minV, maxV, ncV, exV, condV, retV, thenQ, blockQ, Value.oneCell', forall_const, true_implies, ne_eq, reduceCtorEq, false_implies, eq_self, if_true, if_false, ↓reduceIte, Nat.reduceEqDiff, Int.reduceLE, Int.reduceLT, Int.reduceNeg, Int.reduceToNat, Nat.reduceAdd, Nat.reduceMul, Nat.reduceLeDiff, Nat.reduceMod, Nat.reduceSub, Int.reduceEq, Int.reduceNe, Int.reduceAdd, Int.reduceSub, Int.reduceMul, implies_true, apV, hb])))
  refine (frames_N b _).mono ?_
  rintro d _ ⟨rfl, rfl⟩
  (repeat (first | refine W_seq ?_ | refine W_block ?_ | refine W_skip ?_ | refine W_exit ?_ | refine W_ret ?_ | refine W_label ?_ | ((first | refine W_ops (by kernel_rfl) ?_ | refine W_if ?_ | refine WL_go (by kernel_rfl) (by kernel_rfl) ?_); simp (maxSteps := 4000000) only [vX, vB, vT, vZ, vcOps, isCall, mmV, lkV, muV, keyVal, keyVals, mget_nil, ↓selV_eq, stepOp, clV, biV, bnU, nilU, binV, bInt, bStr, bNilP, bNilS, bNilM, nilOp, D.nilPtr, D.nilSl, D.nilMap, isBoolTy, unV, cwV, cvV, elsP, partV, fieldsOf, fieldV, faV, iaV, ixV, ldC, ldV, stV, D.cells, putAt, bxV, alV, bldD, placesOf, allSized, bdV, bsV, rowsD, mkV, bdN, slV, newsP, TD.notInt, TD.agg, azV, clrV, cpyV, cpV, lenV, minV, maxV, ncV, exV, condV, retV, thenQ, blockQ, Value.oneCell', forall_const, true_implies, ne_eq, reduceCtorEq, false_implies, eq_self, if_true, if_false, ↓reduceIte, Nat.reduceEqDiff, Int.reduceLE, Int.reduceLT, Int.reduceNeg, Int.reduceToNat, Nat.reduceAdd, Nat.reduceMul, Nat.reduceLeDiff, Nat.reduceMod, Nat.reduceSub, Int.reduceEq, Int.reduceNe, Int.reduceAdd, Int.reduceSub, Int.reduceMul, implies_true, apV, hb])))
  have hle0 : H.le (((H.upd b2 (.row 78 0 1 [[nilS]])).upd b3 (.row 31 0 1 [[i64 0]])).upd b4 (.row 78 0 1 [[nilS]])) :=
    Heap.le_new (Heap.le_new (Heap.le_new (Heap.le_refl _) hb2) (by rw [Heap.upd_ne n32]; exact hb3)) (by rw [Heap.upd_ne n43, Heap.upd_ne n42]; exact hb4)
  have e2 : (((H.upd b2 (.row 78 0 1 [[nilS]])).upd b3 (.row 31 0 1 [[i64 0]])).upd b4 (.row 78 0 1 [[nilS]])) b2 = some (.row 78 0 1 [[nilS]]) := by
    rw [Heap.upd_ne (Ne.symm n42), Heap.upd_ne (Ne.symm n32), Heap.upd_same]
  have e3 : (((H.upd b2 (.row 78 0 1 [[nilS]])).upd b3 (.row 31 0 1 [[i64 0]])).upd b4 (.row 78 0 1 [[nilS]])) b3 = some (.row 31 0 1 [[i64 0]]) := by
    rw [Heap.upd_ne (Ne.symm n43), Heap.upd_same]
  have e4 : (((H.upd b2 (.row 78 0 1 [[nilS]])).upd b3 (.row 31 0 1 [[i64 0]])).upd b4 (.row 78 0 1 [[nilS]])) b4 = some (.row 78 0 1 [[nilS]]) := Heap.upd_same _ _ _
  refine W_gen (fun s => s.df = [] ∧ s.fr 2 = .ep b2 0 1 0 0 ∧ s.fr 3 = .ep b3 0 1 0 0 ∧ s.fr 4 = .ep b4 0 1 0 0 ∧ s.fr 7 = .fn 83 [.rp [.seq 1 (b.map bD)]] ∧ H.le s.H ∧ s.H b2 = some (.row 78 0 1 [[nilS]]) ∧ s.H b3 = some (.row 31 0 1 [[i64 0]]) ∧ s.H b4 = some (.row 78 0 1 [[nilS]])) ⟨rfl, rfl, rfl, rfl, rfl, hle0, e2, e3, e4⟩ ?_
  clear hle0 e2 e3 e4
  rintro s ⟨hdf, f2, f3, f4, f7, hle, e2, e3, e4⟩
  refine W_rangeFunc rfl (frames_it b (by omega)) f7 (fun _ _ => trivial) (by simp) (fun _ => rfl) (RdI H 2 83 78 spD b2 b3 b4) (fun e _ => RdX H 78 (readF b).2 b2 b3 e) ?_ ?_ ?_ ?_ ?_ ?_
  · rintro pre H1 H2 hr ⟨h1, h2, h3, h4, x, ob, h5, h6, h7⟩
    refine ⟨h1, le_rle hno h2 hr, hr _ _ h3 (by simp), hr _ _ h4 (by simp), x, ob, hr _ _ h5 (by simp), ?_, h7⟩
    rcases h6 with h6 | ⟨c, o, g1, g2, g3, g4⟩
    · exact .inl h6
    · exact .inr ⟨c, o, g1, g2, g3, hr _ _ g4 (by simp)⟩
  · rintro e pre H1 H2 hr ⟨h1, h2, h3, h4, h5⟩
    exact ⟨h1, h2, le_rle hno h3 hr, hr _ _ h4 (by simp), hr _ _ h5 (by simp)⟩
  · exact ⟨by simp, hle, e2, e3, nilS, none, e4, Gl.nil _ _ _ _, by simp, by simp, by simp⟩
  · rintro l w1 pre x Hc o hpre ⟨g1, g2, g3, g4, xs, ob, g5, g6, g7, g8, g9⟩ hob hl
    rw [rst1]
    iterate 1 (first | refine W_seq ?_ | refine W_block ?_ | refine W_skip ?_ | refine W_exit ?_ | refine W_ret ?_ | refine W_label ?_ | ((first | refine W_ops (by kernel_rfl) ?_ | refine W_if ?_ | refine WL_go (by kernel_rfl) (by kernel_rfl) ?_); simp (maxSteps := 4000000) only [vX, vB, vT, vZ, vcOps, isCall, mmV, lkV, muV, keyVal, keyVals, mget_nil, ↓selV_eq, stepOp, clV, biV, bnU, nilU, binV, bInt, bStr, bNilP, bNilS, bNilM, nilOp, D.nilPtr, D.nilSl, D.nilMap, isBoolTy, unV, cwV, cvV, elsP, partV, fieldsOf, fieldV, faV, iaV, ixV, ldC, ldV, stV, D.cells, putAt, bxV, alV, bldD, placesOf, allSized, bdV, bsV, rowsD, mkV, bdN, slV, newsP, TD.notInt, TD.agg, azV, clrV, cpyV, cpV, lenV, minV, maxV, ncV, exV, condV, retV, thenQ, blockQ, Value.oneCell', forall_const, true_implies, ne_eq, reduceCtorEq, false_implies, eq_self, if_true, if_false, ↓reduceIte, Nat.reduceEqDiff, Int.reduceLE, Int.reduceLT, Int.reduceNeg, Int.reduceToNat, Nat.reduceAdd, Nat.reduceMul, Nat.reduceLeDiff, Nat.reduceMod, Nat.reduceSub, Int.reduceEq, Int.reduceNe, Int.reduceAdd, Int.reduceSub, Int.reduceMul, implies_true, apV, frD, i64, wdf_fr, wdf_H, wdf_df, wdf_withH, hdf]))
    intro b5 hb5
    refine ⟨objs.new (objs_refl _) hb5, fun w2 y => ?_⟩
    have n5 : ∀ c x, Hc c = some x → c ≠ b5 := fun c x h e => by rw [e, hb5] at h; cases h
    have nl : ∀ c t o sz els, Hc c = some (.row t o sz els) → c ≠ l := fun c t o sz els h e => by rw [e, hl] at h; cases h
    have n2 := nl _ _ _ _ _ g3
    have n3 := nl _ _ _ _ _ g4
    have n4 := nl _ _ _ _ _ g5
    have l5 := n5 _ _ hl
    refine W_frzp 5 rfl (b := b5) (by simp only [put_H, wdf_H, withH_H]; rw [Heap.upd_ne (Ne.symm l5), Heap.upd_same]) rfl ?_
    simp only [St.frzp, put_H, wdf_H, withH_H, withH_put, wdf_withH, withH_withH, Heap.del_upd_ne (Ne.symm l5), Heap.del_upd_same, Heap.del_none hb5]
    have hno5 := fun (x : HObj) (hx : ∀ o, x ≠ .obj o) => objs_drop (H := Hc) (b := b5) (l := l) (y := y) hx
    rcases frs_pre hpre with ⟨hx, hm⟩ | ⟨hx, hx2⟩
    · have q1 : ((x.2 : Int) = 0) = True := eq_true (by omega)
      have g6' : Gl H 83 2 (pre.map fun y => spD y.1) xs (Hc.upd l (.obj y)) ob := g6.keep fun c h => Heap.upd_ne fun e => by
        rcases g6 with g6 | ⟨c', o', h1, _, _, h2⟩
        · rw [g6.1] at h; cases h
        · rw [h1] at h; injection h with h; rw [h, e, hl] at h2; cases h2
      have hpl : pre.length + 1 ≤ b.length + 1 := by
        have h1 := hpre.length_le
        have h2 := frs_len b
        rw [List.length_append, List.length_singleton] at h1
        omega
      (repeat (first | refine W_seq ?_ | refine W_block ?_ | refine W_skip ?_ | refine W_exit ?_ | refine W_ret ?_ | refine W_label ?_ | refine W_scope ?_ | ((first | refine W_ops (by kernel_rfl) ?_ | refine W_if ?_ | refine WL_go (by kernel_rfl) (by kernel_rfl) ?_); simp (maxSteps := 4000000) only [vX, vB, vT, vZ, vcOps, isCall, mmV, lkV, muV, keyVal, keyVals, mget_nil, ↓selV_eq, stepOp, clV, biV, bnU, nilU, binV, bInt, bStr, bNilP, bNilS, bNilM, nilOp, D.nilPtr, D.nilSl, D.nilMap, isBoolTy, unV, cwV, cvV, elsP, partV, fieldsOf, fieldV, faV, iaV, ixV, ldC, ldV, stV, D.cells, putAt, bxV, alV, bldD, placesOf, allSized, bdV, bsV, rowsD, mkV, bdN, slV, newsP, TD.notInt, TD.agg, azV, clrV, cpyV, cpV, lenV, minV, maxV, ncV, exV, condV, retV, thenQ, blockQ, Value.oneCell', forall_const, true_implies, ne_eq, reduceCtorEq, false_implies, eq_self, if_true, if_false, ↓reduceIte, Nat.reduceEqDiff, Int.reduceLE, Int.reduceLT, Int.reduceNeg, Int.reduceToNat, Nat.reduceAdd, Nat.reduceMul, Nat.reduceLeDiff, Nat.reduceMod, Nat.reduceSub, Int.reduceEq, Int.reduceNe, Int.reduceAdd, Int.reduceSub, Int.reduceMul, implies_true, wdf_fr, wdf_H, wdf_df, wdf_withH, thenQ_n, thenQ_r, blockQ_n, blockQ_r, roundQ_n, roundQ_r, noGotoQ_n, noGotoQ_r, noGotoQ_e, q1, f2, f3, f4, Heap.upd_ne n4, g5])))
      intro b6 hb6
      refine apV_grow (e := 83) ty78 rfl ty78 rfl ty83 rfl (by decide) (Heap.le_put (le_rle hno g2 (rle_obj hl)) (Heap.none_of (le_rle hno g2 (rle_obj hl)) hb6)) (g6'.new hb6) (new := [spD x.1]) (news_own (Heap.upd_same _ _ _) rfl) (by rw [List.length_map]; show (pre.length + 1) * 16 ≤ _; omega) fun d H' ob' hg hle' hp => ?_
      have hcs := hg.cells
      simp only [D.cells] at hcs
      have r2 : (Hc.upd l (.obj y)) b2 = _ := (Heap.upd_ne n2).trans g3
      have q2 := hp _ _ ((Heap.upd_ne (Heap.ne_of r2 hb6)).trans r2) g7
      have r3 : (Hc.upd l (.obj y)) b3 = _ := (Heap.upd_ne n3).trans g4
      have q3 := hp _ _ ((Heap.upd_ne (Heap.ne_of r3 hb6)).trans r3) g8
      have r4 : (Hc.upd l (.obj y)) b4 = _ := (Heap.upd_ne n4).trans g5
      have q4 := hp _ _ ((Heap.upd_ne (Heap.ne_of r4 hb6)).trans r4) g9
      simp (maxSteps := 4000000) only [vX, vB, vT, vZ, vcOps, isCall, mmV, lkV, muV, keyVal, keyVals, mget_nil, ↓selV_eq, stepOp, clV, biV, bnU, nilU, binV, bInt, bStr, bNilP, bNilS, bNilM, nilOp, D.nilPtr, D.nilSl, D.nilMap, isBoolTy, unV, cwV, cvV, elsP, partV, fieldsOf, fieldV, faV, iaV, ixV, ldC, ldV, stV, D.cells, putAt, bxV, alV, bldD, placesOf, allSized, bdV, bsV, rowsD, mkV, bdN, slV, newsP, TD.notInt, TD.agg, azV, clrV, cpyV, cpV, lenV, minV, maxV, ncV, exV, condV, retV, thenQ, blockQ, Value.oneCell', forall_const, true_implies, ne_eq, reduceCtorEq, false_implies, eq_self, if_true, if_false, ↓reduceIte, Nat.reduceEqDiff, Int.reduceLE, Int.reduceLT, Int.reduceNeg, Int.reduceToNat, Nat.reduceAdd, Nat.reduceMul, Nat.reduceLeDiff, Nat.reduceMod, Nat.reduceSub, Int.reduceEq, Int.reduceNe, Int.reduceAdd, Int.reduceSub, Int.reduceMul, implies_true, wdf_fr, wdf_H, wdf_df, wdf_withH, thenQ_n, thenQ_r, blockQ_n, blockQ_r, roundQ_n, roundQ_r, noGotoQ_n, noGotoQ_r, noGotoQ_e, vcW, hOf, fzOp, Bool.false_and, isWild, gW, wildOp, gOp, calmOp, St.out, St.outW, Heap.add_none, Heap.add_upd, disj_upd_iff, disj_none_eq, Option.some.injEq, or_true, true_or, or_false, false_or, ↓calmEq, ↓wildEq, hcs, q4.1]
      refine ⟨(objs_grow ((hno5 _ (by simp)).new hb6) (g6'.new hb6) hp).row q4.1 (by simp), ?_, Heap.le_put hle' hb4, (Heap.upd_ne (Ne.symm n42)).trans q2.1, (Heap.upd_ne (Ne.symm n43)).trans q3.1, d, ob', Heap.upd_same _ _ _, ?_, q2.2, q3.2, q4.2⟩
      · intro z hz
        rcases List.mem_append.1 hz with hz | hz
        · exact g1 z hz
        · rw [List.mem_singleton] at hz; rw [hz]; exact hx
      · rw [List.map_append]
        exact hg.keep fun c h => Heap.upd_ne fun e => q4.2 (by rw [h, e])
    · have q1 : ((x.2 : Int) = 0) = False := eq_false (by omega)
      (repeat (first | refine W_seq ?_ | refine W_block ?_ | refine W_skip ?_ | refine W_exit ?_ | refine W_ret ?_ | refine W_label ?_ | ((first | refine W_ops (by kernel_rfl) ?_ | refine W_if ?_ | refine WL_go (by kernel_rfl) (by kernel_rfl) ?_); simp (maxSteps := 4000000) only [vX, vB, vT, vZ, vcOps, isCall, mmV, lkV, muV, keyVal, keyVals, mget_nil, ↓selV_eq, stepOp, clV, biV, bnU, nilU, binV, bInt, bStr, bNilP, bNilS, bNilM, nilOp, D.nilPtr, D.nilSl, D.nilMap, isBoolTy, unV, cwV, cvV, elsP, partV, fieldsOf, fieldV, faV, iaV, ixV, ldC, ldV, stV, D.cells, putAt, bxV, alV, bldD, placesOf, allSized, bdV, bsV, rowsD, mkV, bdN, slV, newsP, TD.notInt, TD.agg, azV, clrV, cpyV, cpV, lenV, minV, maxV, ncV, exV, condV, retV, thenQ, blockQ, Value.oneCell', forall_const, true_implies, ne_eq, reduceCtorEq, false_implies, eq_self, if_true, if_false, ↓reduceIte, Nat.reduceEqDiff, Int.reduceLE, Int.reduceLT, Int.reduceNeg, Int.reduceToNat, Nat.reduceAdd, Nat.reduceMul, Nat.reduceLeDiff, Nat.reduceMod, Nat.reduceSub, Int.reduceEq, Int.reduceNe, Int.reduceAdd, Int.reduceSub, Int.reduceMul, implies_true, apV, wdf_fr, wdf_H, wdf_df, wdf_withH, q1, thenQ_n])))
      refine W_wild (fun t => decide (t = some 13)) (fun _ => false) (fun _ _ _ _ => False) (fun _ _ _ _ _ => False) (by kernel_rfl) (by kernel_rfl) (by kernel_rfl) (by kernel_rfl) (by kernel_rfl) ?_; simp (maxSteps := 4000000) only [vX, vB, vT, vZ, vcOps, isCall, mmV, lkV, muV, keyVal, keyVals, mget_nil, ↓selV_eq, stepOp, clV, biV, bnU, nilU, binV, bInt, bStr, bNilP, bNilS, bNilM, nilOp, D.nilPtr, D.nilSl, D.nilMap, isBoolTy, unV, cwV, cvV, elsP, partV, fieldsOf, fieldV, faV, iaV, ixV, ldC, ldV, stV, D.cells, putAt, bxV, alV, bldD, placesOf, allSized, bdV, bsV, rowsD, mkV, bdN, slV, newsP, TD.notInt, TD.agg, azV, clrV, cpyV, cpV, lenV, minV, maxV, ncV, exV, condV, retV, thenQ, blockQ, Value.oneCell', forall_const, true_implies, ne_eq, reduceCtorEq, false_implies, eq_self, if_true, if_false, ↓reduceIte, Nat.reduceEqDiff, Int.reduceLE, Int.reduceLT, Int.reduceNeg, Int.reduceToNat, Nat.reduceAdd, Nat.reduceMul, Nat.reduceLeDiff, Nat.reduceMod, Nat.reduceSub, Int.reduceEq, Int.reduceNe, Int.reduceAdd, Int.reduceSub, Int.reduceMul, implies_true, wdf_fr, wdf_H, wdf_df, wdf_withH, thenQ_n, thenQ_r, blockQ_n, blockQ_r, roundQ_n, roundQ_r, noGotoQ_n, noGotoQ_r, noGotoQ_e, vcW, hOf, fzOp, Bool.false_and, isWild, gW, wildOp, gOp, calmOp, St.out, St.outW, Heap.add_none, Heap.add_upd, disj_upd_iff, disj_none_eq, Option.some.injEq, or_true, true_or, or_false, false_or, ↓calmEq, ↓wildEq, f2, f3, Heap.upd_ne n2, Heap.upd_ne n3, Heap.upd_ne n32, g3, g4]
      refine W_ret ?_
      simp (maxSteps := 4000000) only [vX, vB, vT, vZ, vcOps, isCall, mmV, lkV, muV, keyVal, keyVals, mget_nil, ↓selV_eq, stepOp, clV, biV, bnU, nilU, binV, bInt, bStr, bNilP, bNilS, bNilM, nilOp, D.nilPtr, D.nilSl, D.nilMap, isBoolTy, unV, cwV, cvV, elsP, partV, fieldsOf, fieldV, faV, iaV, ixV, ldC, ldV, stV, D.cells, putAt, bxV, alV, bldD, placesOf, allSized, bdV, bsV, rowsD, mkV, bdN, slV, newsP, TD.notInt, TD.agg, azV, clrV, cpyV, cpV, lenV, minV, maxV, ncV, exV, condV, retV, thenQ, blockQ, Value.oneCell', forall_const, true_implies, ne_eq, reduceCtorEq, false_implies, eq_self, if_true, if_false, ↓reduceIte, Nat.reduceEqDiff, Int.reduceLE, Int.reduceLT, Int.reduceNeg, Int.reduceToNat, Nat.reduceAdd, Nat.reduceMul, Nat.reduceLeDiff, Nat.reduceMod, Nat.reduceSub, Int.reduceEq, Int.reduceNe, Int.reduceAdd, Int.reduceSub, Int.reduceMul, implies_true, wdf_fr, wdf_H, wdf_df, wdf_withH, thenQ_n, thenQ_r, blockQ_n, blockQ_r, roundQ_n, roundQ_r, noGotoQ_n, noGotoQ_r, noGotoQ_e, vcW, hOf, fzOp, Bool.false_and, isWild, gW, wildOp, gOp, calmOp, St.out, St.outW, Heap.add_none, Heap.add_upd, disj_upd_iff, disj_none_eq, Option.some.injEq, or_true, true_or, or_false, false_or, ↓calmEq, ↓wildEq, i64]
      refine ⟨((hno5 _ (by simp)).row (y := .row 78 0 1 [[nilS]]) ((Heap.upd_ne n2).trans g3) (by simp)).row (y := .row 31 0 1 [[i64 0]]) ((Heap.upd_ne n32).trans ((Heap.upd_ne n3).trans g4)) (by simp), rfl, by omega, ?_, (Heap.upd_ne (Ne.symm n32)).trans (Heap.upd_same _ _ _), by rw [Heap.upd_same, hx2]; rfl⟩
      exact Heap.le_put (Heap.le_put (le_rle hno g2 (rle_obj hl)) hb2) hb3
  · rintro Hc M ⟨g1, g2, g3, g4, xs, ob, g5, g6, g7, g8, g9⟩ hob hD hDn
    rw [df_wdf, blockQ_n, thenQ_n, hdf]
    have g3' : ∀ x, (Hc.upd b2 x) b3 = some (.row 31 0 1 [[i64 0]]) := fun x => (Heap.upd_ne n32).trans g4
    have hcs := g6.cells
    simp only [D.cells] at hcs
    have hM2 : b2 ≠ M := fun e => by rw [e, hD] at g3; cases g3
    have hM3 : b3 ≠ M := fun e => by rw [e, hD] at g4; cases g4
    (repeat (first | refine W_seq ?_ | refine W_block ?_ | refine W_skip ?_ | refine W_exit ?_ | refine W_ret ?_ | refine W_label ?_ | refine W_scope ?_ | ((first | refine W_ops (by kernel_rfl) ?_ | refine W_if ?_ | refine WL_go (by kernel_rfl) (by kernel_rfl) ?_); simp (maxSteps := 4000000) only [vX, vB, vT, vZ, vcOps, isCall, mmV, lkV, muV, keyVal, keyVals, mget_nil, ↓selV_eq, stepOp, clV, biV, bnU, nilU, binV, bInt, bStr, bNilP, bNilS, bNilM, nilOp, D.nilPtr, D.nilSl, D.nilMap, isBoolTy, unV, cwV, cvV, elsP, partV, fieldsOf, fieldV, faV, iaV, ixV, ldC, ldV, stV, D.cells, putAt, bxV, alV, bldD, placesOf, allSized, bdV, bsV, rowsD, mkV, bdN, slV, newsP, TD.notInt, TD.agg, azV, clrV, cpyV, cpV, lenV, minV, maxV, ncV, exV, condV, retV, thenQ, blockQ, Value.oneCell', forall_const, true_implies, ne_eq, reduceCtorEq, false_implies, eq_self, if_true, if_false, ↓reduceIte, Nat.reduceEqDiff, Int.reduceLE, Int.reduceLT, Int.reduceNeg, Int.reduceToNat, Nat.reduceAdd, Nat.reduceMul, Nat.reduceLeDiff, Nat.reduceMod, Nat.reduceSub, Int.reduceEq, Int.reduceNe, Int.reduceAdd, Int.reduceSub, Int.reduceMul, implies_true, wdf_fr, wdf_H, wdf_df, wdf_withH, thenQ_n, thenQ_r, blockQ_n, blockQ_r, roundQ_n, roundQ_r, noGotoQ_n, noGotoQ_r, noGotoQ_e, f2, f3, f4, g5, g3, g3', hcs])))
    refine hret _ _ (.inr rfl) ?_ ?_
    · simp (maxSteps := 4000000) only [vX, vB, vT, vZ, vcOps, isCall, mmV, lkV, muV, keyVal, keyVals, mget_nil, ↓selV_eq, stepOp, clV, biV, bnU, nilU, binV, bInt, bStr, bNilP, bNilS, bNilM, nilOp, D.nilPtr, D.nilSl, D.nilMap, isBoolTy, unV, cwV, cvV, elsP, partV, fieldsOf, fieldV, faV, iaV, ixV, ldC, ldV, stV, D.cells, putAt, bxV, alV, bldD, placesOf, allSized, bdV, bsV, rowsD, mkV, bdN, slV, newsP, TD.notInt, TD.agg, azV, clrV, cpyV, cpV, lenV, minV, maxV, ncV, exV, condV, retV, thenQ, blockQ, Value.oneCell', forall_const, true_implies, ne_eq, reduceCtorEq, false_implies, eq_self, if_true, if_false, ↓reduceIte, Nat.reduceEqDiff, Int.reduceLE, Int.reduceLT, Int.reduceNeg, Int.reduceToNat, Nat.reduceAdd, Nat.reduceMul, Nat.reduceLeDiff, Nat.reduceMod, Nat.reduceSub, Int.reduceEq, Int.reduceNe, Int.reduceAdd, Int.reduceSub, Int.reduceMul, implies_true, wdf_fr, wdf_H, wdf_df, wdf_withH, thenQ_n, thenQ_r, blockQ_n, blockQ_r, roundQ_n, roundQ_r, noGotoQ_n, noGotoQ_r, noGotoQ_e, f2]
      refine mk1 ?_
      rw [Heap.upd_ne (Ne.symm hM3), Heap.upd_ne (Ne.symm hM2)]; exact hD
    · simp (maxSteps := 4000000) only [vX, vB, vT, vZ, vcOps, isCall, mmV, lkV, muV, keyVal, keyVals, mget_nil, ↓selV_eq, stepOp, clV, biV, bnU, nilU, binV, bInt, bStr, bNilP, bNilS, bNilM, nilOp, D.nilPtr, D.nilSl, D.nilMap, isBoolTy, unV, cwV, cvV, elsP, partV, fieldsOf, fieldV, faV, iaV, ixV, ldC, ldV, stV, D.cells, putAt, bxV, alV, bldD, placesOf, allSized, bdV, bsV, rowsD, mkV, bdN, slV, newsP, TD.notInt, TD.agg, azV, clrV, cpyV, cpV, lenV, minV, maxV, ncV, exV, condV, retV, thenQ, blockQ, Value.oneCell', forall_const, true_implies, ne_eq, reduceCtorEq, false_implies, eq_self, if_true, if_false, ↓reduceIte, Nat.reduceEqDiff, Int.reduceLE, Int.reduceLT, Int.reduceNeg, Int.reduceToNat, Nat.reduceAdd, Nat.reduceMul, Nat.reduceLeDiff, Nat.reduceMod, Nat.reduceSub, Int.reduceEq, Int.reduceNe, Int.reduceAdd, Int.reduceSub, Int.reduceMul, implies_true, wdf_fr, wdf_H, wdf_df, wdf_withH, thenQ_n, thenQ_r, blockQ_n, blockQ_r, roundQ_n, roundQ_r, noGotoQ_n, noGotoQ_r, noGotoQ_e, f2]
      rw [offM1]
      simp (maxSteps := 4000000) only [vX, vB, vT, vZ, vcOps, isCall, mmV, lkV, muV, keyVal, keyVals, mget_nil, ↓selV_eq, stepOp, clV, biV, bnU, nilU, binV, bInt, bStr, bNilP, bNilS, bNilM, nilOp, D.nilPtr, D.nilSl, D.nilMap, isBoolTy, unV, cwV, cvV, elsP, partV, fieldsOf, fieldV, faV, iaV, ixV, ldC, ldV, stV, D.cells, putAt, bxV, alV, bldD, placesOf, allSized, bdV, bsV, rowsD, mkV, bdN, slV, newsP, TD.notInt, TD.agg, azV, clrV, cpyV, cpV, lenV, minV, maxV, ncV, exV, condV, retV, thenQ, blockQ, Value.oneCell', forall_const, true_implies, ne_eq, reduceCtorEq, false_implies, eq_self, if_true, if_false, ↓reduceIte, Nat.reduceEqDiff, Int.reduceLE, Int.reduceLT, Int.reduceNeg, Int.reduceToNat, Nat.reduceAdd, Nat.reduceMul, Nat.reduceLeDiff, Nat.reduceMod, Nat.reduceSub, Int.reduceEq, Int.reduceNe, Int.reduceAdd, Int.reduceSub, Int.reduceMul, implies_true, wdf_fr, wdf_H, wdf_df, wdf_withH, thenQ_n, thenQ_r, blockQ_n, blockQ_r, roundQ_n, roundQ_r, noGotoQ_n, noGotoQ_r, noGotoQ_e, f2, f3, Heap.upd_ne hM2, Heap.upd_ne hM3, Heap.upd_ne (Ne.symm n32)]
      obtain ⟨h0, hall⟩ := frs_all g1
      rw [h0, if_pos rfl]
      rw [hall, List.map_map] at g6
      obtain ⟨H', h1, h2⟩ := Gl.fin (H0 := H) (H := ((Hc.upd b2 (.row 78 0 1 [[xs]])).upd b3 (.row 31 0 1 [[i64 0]])).upd M .hid) (g6.keep fun c h => by
        rw [Heap.upd_ne (fun e => ?_), Heap.upd_ne (fun e => g8 (by rw [h, e])), Heap.upd_ne (fun e => g7 (by rw [h, e]))]
        rcases g6 with g6 | ⟨c', o', h1, _, _, h2⟩
        · rw [g6.1] at h; cases h
        · rw [h1] at h; injection h with h; rw [h, e, hD] at h2; cases h2) (Heap.le_put (Heap.le_put (Heap.le_put g2 hb2) hb3) (Heap.none_of hle hDn))
      exact ⟨H', h1, _, _, H, rfl, ⟨rfl, rfl⟩, h2⟩
  · rintro e c pre Hc M hj ⟨rfl, h2, h3, h4, h5⟩ hob hD hDn
    rw [df_wdf, hdf]
    simp (maxSteps := 4000000) only [vX, vB, vT, vZ, vcOps, isCall, mmV, lkV, muV, keyVal, keyVals, mget_nil, ↓selV_eq, stepOp, clV, biV, bnU, nilU, binV, bInt, bStr, bNilP, bNilS, bNilM, nilOp, D.nilPtr, D.nilSl, D.nilMap, isBoolTy, unV, cwV, cvV, elsP, partV, fieldsOf, fieldV, faV, iaV, ixV, ldC, ldV, stV, D.cells, putAt, bxV, alV, bldD, placesOf, allSized, bdV, bsV, rowsD, mkV, bdN, slV, newsP, TD.notInt, TD.agg, azV, clrV, cpyV, cpV, lenV, minV, maxV, ncV, exV, condV, retV, thenQ, blockQ, Value.oneCell', forall_const, true_implies, ne_eq, reduceCtorEq, false_implies, eq_self, if_true, if_false, ↓reduceIte, Nat.reduceEqDiff, Int.reduceLE, Int.reduceLT, Int.reduceNeg, Int.reduceToNat, Nat.reduceAdd, Nat.reduceMul, Nat.reduceLeDiff, Nat.reduceMod, Nat.reduceSub, Int.reduceEq, Int.reduceNe, Int.reduceAdd, Int.reduceSub, Int.reduceMul, implies_true, wdf_fr, wdf_H, wdf_df, wdf_withH, thenQ_n, thenQ_r, blockQ_n, blockQ_r, roundQ_n, roundQ_r, noGotoQ_n, noGotoQ_r, noGotoQ_e, f2]
    refine hret _ _ (.inr rfl) ?_ ?_
    · simp (maxSteps := 4000000) only [vX, vB, vT, vZ, vcOps, isCall, mmV, lkV, muV, keyVal, keyVals, mget_nil, ↓selV_eq, stepOp, clV, biV, bnU, nilU, binV, bInt, bStr, bNilP, bNilS, bNilM, nilOp, D.nilPtr, D.nilSl, D.nilMap, isBoolTy, unV, cwV, cvV, elsP, partV, fieldsOf, fieldV, faV, iaV, ixV, ldC, ldV, stV, D.cells, putAt, bxV, alV, bldD, placesOf, allSized, bdV, bsV, rowsD, mkV, bdN, slV, newsP, TD.notInt, TD.agg, azV, clrV, cpyV, cpV, lenV, minV, maxV, ncV, exV, condV, retV, thenQ, blockQ, Value.oneCell', forall_const, true_implies, ne_eq, reduceCtorEq, false_implies, eq_self, if_true, if_false, ↓reduceIte, Nat.reduceEqDiff, Int.reduceLE, Int.reduceLT, Int.reduceNeg, Int.reduceToNat, Nat.reduceAdd, Nat.reduceMul, Nat.reduceLeDiff, Nat.reduceMod, Nat.reduceSub, Int.reduceEq, Int.reduceNe, Int.reduceAdd, Int.reduceSub, Int.reduceMul, implies_true, wdf_fr, wdf_H, wdf_df, wdf_withH, thenQ_n, thenQ_r, blockQ_n, blockQ_r, roundQ_n, roundQ_r, noGotoQ_n, noGotoQ_r, noGotoQ_e, f2]
      exact mk1 hD
    · rw [wdf_df, offM1]
      have hD2 : b2 ≠ M := fun e => by rw [e, hD] at h4; cases h4
      have hD3 : b3 ≠ M := fun e => by rw [e, hD] at h5; cases h5
      simp (maxSteps := 4000000) only [vX, vB, vT, vZ, vcOps, isCall, mmV, lkV, muV, keyVal, keyVals, mget_nil, ↓selV_eq, stepOp, clV, biV, bnU, nilU, binV, bInt, bStr, bNilP, bNilS, bNilM, nilOp, D.nilPtr, D.nilSl, D.nilMap, isBoolTy, unV, cwV, cvV, elsP, partV, fieldsOf, fieldV, faV, iaV, ixV, ldC, ldV, stV, D.cells, putAt, bxV, alV, bldD, placesOf, allSized, bdV, bsV, rowsD, mkV, bdN, slV, newsP, TD.notInt, TD.agg, azV, clrV, cpyV, cpV, lenV, minV, maxV, ncV, exV, condV, retV, thenQ, blockQ, Value.oneCell', forall_const, true_implies, ne_eq, reduceCtorEq, false_implies, eq_self, if_true, if_false, ↓reduceIte, Nat.reduceEqDiff, Int.reduceLE, Int.reduceLT, Int.reduceNeg, Int.reduceToNat, Nat.reduceAdd, Nat.reduceMul, Nat.reduceLeDiff, Nat.reduceMod, Nat.reduceSub, Int.reduceEq, Int.reduceNe, Int.reduceAdd, Int.reduceSub, Int.reduceMul, implies_true, wdf_fr, wdf_H, wdf_df, wdf_withH, thenQ_n, thenQ_r, blockQ_n, blockQ_r, roundQ_n, roundQ_r, noGotoQ_n, noGotoQ_r, noGotoQ_e, f2, f3, Heap.upd_ne hD2, Heap.upd_ne hD3, h4, h5, nilS, i64]
      refine ⟨H, ?_, _, _, H, rfl, ⟨rfl, rfl⟩, ?_⟩
      · exact Heap.le_put h3 (Heap.none_of hle hDn)
      · rw [if_neg h2]
        exact .inl ⟨rfl, rfl, rfl⟩
end Go.Proofs.Ytgaadmgcjnikkaa
