/- Lemmas and contracts of functions, several texts in one: HT HN R1 R3 R4 R3r. -/
import Derived.Test.YtgfhgeelfaalmaaGreatDoorK06
import Derived.Test.YtgfhgeelfaalmaaGreatDoorK07
import Derived.Test.YtgfhgeelfaalmaaGreatDoorK05
namespace Go.Proofs.YtgfhgeelfaalmaaGreatDoor
open Go.RowKit
set_option linter.unusedVariables false
set_option linter.unusedSimpArgs false
def trueB (S : List Int) (x : Int) : Option D := if x ∈ S then some (.val (.bool true)) else none
theorem trueB_cons (x : Int) (S : List Int) : ∀ y, (if y = x then some (D.val (.bool true)) else trueB S y) = trueB (x :: S) y := fun y => by
  unfold trueB
  by_cases h : y = x
  · subst h; simp
  · rw [if_neg h]
    have : (y ∈ x :: S) = (y ∈ S) := by simp [h]
    simp only [this]
theorem trueB_nil : ∀ y, (none : Option D) = trueB [] y := fun y => by simp [trueB]
theorem nodup_nat : ∀ (N : Nat) (S : List Nat), S.Nodup → (∀ x ∈ S, x < N) → S.length ≤ N
  | 0, S, _, h => by
    cases S with
    | nil => simp
    | cons x S => exact absurd (h x (by simp)) (by omega)
  | N + 1, S, hn, h => by
    by_cases hm : N ∈ S
    · have h1 := nodup_nat N (S.erase N) (hn.erase N) fun x hx => by
        have h2 := (hn.mem_erase_iff).1 hx
        have := h x h2.2
        omega
      rw [List.length_erase_of_mem hm] at h1
      omega
    · have := nodup_nat N S hn fun x hx => by
        have := h x hx
        have : x ≠ N := fun e => hm (e ▸ hx)
        omega
      omega
theorem nodup_le {n : Int} {S : List Int} (hn : S.Nodup) (h : ∀ x ∈ S, InR n x) : S.length ≤ n.toNat := by
  have := nodup_nat n.toNat (S.map Int.toNat) (by
    rw [List.nodup_iff_pairwise_ne, List.pairwise_map]
    rw [List.nodup_iff_pairwise_ne] at hn
    refine List.Pairwise.imp_of_mem ?_ hn
    intro a b ha hb hab e
    have h1 := h a ha
    have h2 := h b hb
    unfold InR at h1 h2
    exact hab (by omega)) (fun x hx => by
      obtain ⟨y, hy, rfl⟩ := List.mem_map.1 hx
      have := h y hy
      unfold InR at this
      omega)
  simpa using this
def cmpI (a b : Int) : Int := if a < b then -1 else if b < a then 1 else 0
theorem nan_N (a : Int) (H : Heap) : Does Tryz.prog 123 [i64 a] H fun d H' => d = .val (.bool false) ∧ H = H' := by
  refine does_of _ _ Tryz.func123 rfl rfl Tryz.ntmps123 Tryz.results123 (by simp only [List.length_cons, List.length_nil]; omega) fun w0 g0 Q hret => ?_
  (have fs := @i64.eq_1; (repeat (first | refine W_seq ?_ | refine W_block ?_ | refine W_skip ?_ | refine W_exit ?_ | refine W_ret ?_ | refine W_label ?_ | refine W_scope ?_ | ((first | refine W_opsQ (by kernel_rfl) ?_ | refine W_if ?_ | refine WL_goQ (by kernel_rfl) (by kernel_rfl) ?_); refine evQ ?_))); (try clear fs))
  have fs := @i64.eq_1; refine hret _ _ (by first | exact .inr rfl | exact .inl rfl) (by first | rfl | assumption | (simp only [put_df, withH_df]; assumption)) ?_; refine evQ ?_; clear fs; exact ⟨_, Heap.le_refl _, by first | rfl | exact ⟨rfl, rfl⟩ | assumption⟩
theorem cmp_N (a b : Int) (H : Heap) : Does Tryz.prog 103 [i64 a, i64 b] H fun d H' => d = i64 (cmpI a b) ∧ H = H' := by
  refine does_of _ _ Tryz.func103 rfl rfl Tryz.ntmps103 Tryz.results103 (by simp only [List.length_cons, List.length_nil]; omega) fun w0 g0 Q hret => ?_
  (have fs := @i64.eq_1; (repeat (first | refine W_seq ?_ | refine W_block ?_ | refine W_skip ?_ | refine W_exit ?_ | refine W_ret ?_ | refine W_label ?_ | refine W_scope ?_ | ((first | refine W_opsQ (by kernel_rfl) ?_ | refine W_if ?_ | refine WL_goQ (by kernel_rfl) (by kernel_rfl) ?_); refine evQ ?_))); (try clear fs))
  refine (nan_N a _).mono ?_
  rintro d _ ⟨rfl, rfl⟩
  (have fs := @i64.eq_1; (repeat (first | refine W_seq ?_ | refine W_block ?_ | refine W_skip ?_ | refine W_exit ?_ | refine W_ret ?_ | refine W_label ?_ | refine W_scope ?_ | ((first | refine W_opsQ (by kernel_rfl) ?_ | refine W_if ?_ | refine WL_goQ (by kernel_rfl) (by kernel_rfl) ?_); refine evQ ?_))); (try clear fs))
  refine (nan_N b _).mono ?_
  rintro d _ ⟨rfl, rfl⟩
  unfold cmpI at hret
  by_cases h1 : a < b
  · rw [if_pos h1] at hret
    have q1 : (a < b) = True := eq_true h1
    (have fs := And.intro @i64.eq_1 q1; (repeat (first | refine W_seq ?_ | refine W_block ?_ | refine W_skip ?_ | refine W_exit ?_ | refine W_ret ?_ | refine W_label ?_ | refine W_scope ?_ | ((first | refine W_opsQ (by kernel_rfl) ?_ | refine W_if ?_ | refine WL_goQ (by kernel_rfl) (by kernel_rfl) ?_); refine evQ ?_))); (try clear fs))
    have fs := @i64.eq_1; refine hret _ _ (by first | exact .inr rfl | exact .inl rfl) (by first | rfl | assumption | (simp only [put_df, withH_df]; assumption)) ?_; refine evQ ?_; clear fs; exact ⟨_, Heap.le_refl _, by first | rfl | exact ⟨rfl, rfl⟩ | assumption⟩
  have q1 : (a < b) = False := eq_false h1
  rw [if_neg h1] at hret
  by_cases h2 : b < a
  · rw [if_pos h2] at hret
    have q2 : (b < a) = True := eq_true h2
    (have fs := And.intro @i64.eq_1 (And.intro q1 q2); (repeat (first | refine W_seq ?_ | refine W_block ?_ | refine W_skip ?_ | refine W_exit ?_ | refine W_ret ?_ | refine W_label ?_ | refine W_scope ?_ | ((first | refine W_opsQ (by kernel_rfl) ?_ | refine W_if ?_ | refine WL_goQ (by kernel_rfl) (by kernel_rfl) ?_); refine evQ ?_))); (try clear fs))
    have fs := @i64.eq_1; refine hret _ _ (by first | exact .inr rfl | exact .inl rfl) (by first | rfl | assumption | (simp only [put_df, withH_df]; assumption)) ?_; refine evQ ?_; clear fs; exact ⟨_, Heap.le_refl _, by first | rfl | exact ⟨rfl, rfl⟩ | assumption⟩
  have q2 : (b < a) = False := eq_false h2
  rw [if_neg h2] at hret
  (have fs := And.intro @i64.eq_1 (And.intro q1 q2); (repeat (first | refine W_seq ?_ | refine W_block ?_ | refine W_skip ?_ | refine W_exit ?_ | refine W_ret ?_ | refine W_label ?_ | refine W_scope ?_ | ((first | refine W_opsQ (by kernel_rfl) ?_ | refine W_if ?_ | refine WL_goQ (by kernel_rfl) (by kernel_rfl) ?_); refine evQ ?_))); (try clear fs))
  have fs := @i64.eq_1; refine hret _ _ (by first | exact .inr rfl | exact .inl rfl) (by first | rfl | assumption | (simp only [put_df, withH_df]; assumption)) ?_; refine evQ ?_; clear fs; exact ⟨_, Heap.le_refl _, by first | rfl | exact ⟨rfl, rfl⟩ | assumption⟩
def cmpF : List Int → List Int → Int
  | [], [] => 0
  | [], _ :: _ => -1
  | _ :: _, [] => 1
  | x :: xs, y :: ys => if cmpI x y = 0 then cmpF xs ys else cmpI x y
def CmI (l m : List Int) (H : Heap) (i : Nat) (s : St) : Prop := s.df = [] ∧ s.fr 0 = .seq 1 (l.map iD) ∧ s.fr 1 = .seq 1 (m.map iD) ∧ s.fr 9 = .seq 1 (l.map iD) ∧ s.fr 10 = i64 l.length ∧ s.fr 11 = i64 i ∧ s.H = H ∧ i ≤ m.length ∧ cmpF l m = cmpF (l.drop i) (m.drop i)
set_option maxRecDepth 100000 in
theorem compare_N (l m : List Int) (H : Heap) (hl : l.length ≤ 140737488351232) (hm : m.length ≤ 140737488351232) : Does Tryz.prog 74 [.seq 1 (l.map iD), .seq 1 (m.map iD)] H fun d H' => d = i64 (cmpF l m) ∧ H = H' := by
  have hll : (List.map iD l).length = l.length := List.length_map _
  have hml : (List.map iD m).length = m.length := List.length_map _
  refine does_of _ _ Tryz.func74 rfl rfl Tryz.ntmps74 Tryz.results74 (by simp only [List.length_cons, List.length_nil]; omega) fun w0 g0 Q hret => ?_
  (have fs := hll; (repeat (first | refine W_seq ?_ | refine W_block ?_ | refine W_skip ?_ | refine W_exit ?_ | refine W_ret ?_ | refine W_label ?_ | refine W_scope ?_ | ((first | refine W_opsQ (by kernel_rfl) ?_ | refine W_if ?_ | refine WL_goQ (by kernel_rfl) (by kernel_rfl) ?_); refine evQ ?_))); (try clear fs))
  refine W_loopN l.length (CmI l m H) ⟨rfl, rfl, rfl, rfl, rfl, rfl, rfl, by omega, rfl⟩ ?_
  rintro i s hi ⟨hdf, f0, f1, f9, f10, f11, hH, him, hc⟩
  have hx : (i : Int).toNat = i := Int.toNat_natCast _
  have h00 : (0 : Int) ≤ (i : Int) := Int.natCast_nonneg _
  by_cases hil : i < l.length
  · have q1 : ((i : Int) < (l.length : Int)) = True := eq_true (by omega)
    have hgi := get_ints hil
    have w3 : IntKind.i64.wrap ((i : Int) + 1) = ((i + 1 : Nat) : Int) := by rw [wrap_i64_of (by omega)]; omega
    by_cases him2 : i < m.length
    · have q2 : ((m.length : Int) ≤ (i : Int)) = False := eq_false (by omega)
      have hgj := get_ints him2
      have hd : cmpF l m = if cmpI l[i] m[i] = 0 then cmpF (l.drop (i + 1)) (m.drop (i + 1)) else cmpI l[i] m[i] := by
        rw [hc, List.drop_eq_getElem_cons hil, List.drop_eq_getElem_cons him2]; rfl
      (have fs := And.intro f0 (And.intro f1 (And.intro f9 (And.intro f10 (And.intro f11 (And.intro @i64.eq_1 (And.intro hll (And.intro hml (And.intro q1 (And.intro q2 (And.intro hgi (And.intro hgj (And.intro hx (And.intro h00 (And.intro hil him2)))))))))))))); (repeat (first | refine W_seq ?_ | refine W_block ?_ | refine W_skip ?_ | refine W_exit ?_ | refine W_ret ?_ | refine W_label ?_ | refine W_scope ?_ | ((first | refine W_opsQ (by kernel_rfl) ?_ | refine W_if ?_ | refine WL_goQ (by kernel_rfl) (by kernel_rfl) ?_); refine evQ ?_))); (try clear fs))
      refine (cmp_N l[i] m[i] _).mono ?_
      rintro d _ ⟨rfl, rfl⟩
      by_cases h0 : cmpI l[i] m[i] = 0
      · rw [if_pos h0] at hd
        have q3 : (cmpI l[i] m[i] = 0) = True := eq_true h0
        (have fs := And.intro @i64.eq_1 (And.intro q3 (And.intro f11 w3)); (repeat (first | refine W_seq ?_ | refine W_block ?_ | refine W_skip ?_ | refine W_exit ?_ | refine W_ret ?_ | refine W_label ?_ | refine W_scope ?_ | ((first | refine W_opsQ (by kernel_rfl) ?_ | refine W_if ?_ | refine WL_goQ (by kernel_rfl) (by kernel_rfl) ?_); refine evQ ?_))); (try clear fs))
        exact ⟨hil, hdf, f0, f1, f9, f10, rfl, hH, by omega, hd⟩
      · rw [if_neg h0] at hd
        have q3 : (cmpI l[i] m[i] = 0) = False := eq_false h0
        (have fs := And.intro @i64.eq_1 q3; (repeat (first | refine W_seq ?_ | refine W_block ?_ | refine W_skip ?_ | refine W_exit ?_ | refine W_ret ?_ | refine W_label ?_ | refine W_scope ?_ | ((first | refine W_opsQ (by kernel_rfl) ?_ | refine W_if ?_ | refine WL_goQ (by kernel_rfl) (by kernel_rfl) ?_); refine evQ ?_))); (try clear fs))
        have fs := hdf; refine hret _ _ (by first | exact .inr rfl | exact .inl rfl) (by first | rfl | assumption | (simp only [put_df, withH_df]; assumption)) ?_; refine evQ ?_; clear fs
        exact ⟨_, Heap.le_refl _, by rw [hd, i64], hH.symm⟩
    · have q2 : ((m.length : Int) ≤ (i : Int)) = True := eq_true (by omega)
      have hd : cmpF l m = 1 := by
        rw [hc, List.drop_eq_getElem_cons hil, List.drop_eq_nil_of_le (show m.length ≤ i by omega)]; rfl
      (have fs := And.intro f0 (And.intro f1 (And.intro f9 (And.intro f10 (And.intro f11 (And.intro @i64.eq_1 (And.intro hll (And.intro hml (And.intro q1 (And.intro q2 (And.intro hgi (And.intro hx (And.intro h00 hil)))))))))))); (repeat (first | refine W_seq ?_ | refine W_block ?_ | refine W_skip ?_ | refine W_exit ?_ | refine W_ret ?_ | refine W_label ?_ | refine W_scope ?_ | ((first | refine W_opsQ (by kernel_rfl) ?_ | refine W_if ?_ | refine WL_goQ (by kernel_rfl) (by kernel_rfl) ?_); refine evQ ?_))); (try clear fs))
      have fs := hdf; refine hret _ _ (by first | exact .inr rfl | exact .inl rfl) (by first | rfl | assumption | (simp only [put_df, withH_df]; assumption)) ?_; refine evQ ?_; clear fs
      exact ⟨_, Heap.le_refl _, by rw [hd, i64], hH.symm⟩
  · have q1 : ((i : Int) < (l.length : Int)) = False := eq_false (by omega)
    have hil2 : i = l.length := by omega
    by_cases him2 : i < m.length
    · have q2 : ((l.length : Int) < (m.length : Int)) = True := eq_true (by omega)
      have hd : cmpF l m = -1 := by
        rw [hc, List.drop_eq_nil_of_le (show l.length ≤ i by omega), List.drop_eq_getElem_cons him2]; rfl
      (have fs := And.intro f0 (And.intro f1 (And.intro f9 (And.intro f10 (And.intro f11 (And.intro @i64.eq_1 (And.intro hll (And.intro hml (And.intro q1 q2)))))))); (repeat (first | refine W_seq ?_ | refine W_block ?_ | refine W_skip ?_ | refine W_exit ?_ | refine W_ret ?_ | refine W_label ?_ | refine W_scope ?_ | ((first | refine W_opsQ (by kernel_rfl) ?_ | refine W_if ?_ | refine WL_goQ (by kernel_rfl) (by kernel_rfl) ?_); refine evQ ?_))); (try clear fs))
      have fs := hdf; refine hret _ _ (by first | exact .inr rfl | exact .inl rfl) (by first | rfl | assumption | (simp only [put_df, withH_df]; assumption)) ?_; refine evQ ?_; clear fs
      exact ⟨_, Heap.le_refl _, by rw [hd, i64], hH.symm⟩
    · have q2 : ((l.length : Int) < (m.length : Int)) = False := eq_false (by omega)
      have hd : cmpF l m = 0 := by
        rw [hc, List.drop_eq_nil_of_le (show l.length ≤ i by omega), List.drop_eq_nil_of_le (show m.length ≤ i by omega)]; rfl
      (have fs := And.intro f0 (And.intro f1 (And.intro f9 (And.intro f10 (And.intro f11 (And.intro @i64.eq_1 (And.intro hll (And.intro hml (And.intro q1 q2)))))))); (repeat (first | refine W_seq ?_ | refine W_block ?_ | refine W_skip ?_ | refine W_exit ?_ | refine W_ret ?_ | refine W_label ?_ | refine W_scope ?_ | ((first | refine W_opsQ (by kernel_rfl) ?_ | refine W_if ?_ | refine WL_goQ (by kernel_rfl) (by kernel_rfl) ?_); refine evQ ?_))); (try clear fs))
      have fs := hdf; refine hret _ _ (by first | exact .inr rfl | exact .inl rfl) (by first | rfl | assumption | (simp only [put_df, withH_df]; assumption)) ?_; refine evQ ?_; clear fs
      exact ⟨_, Heap.le_refl _, by rw [hd, i64], hH.symm⟩
theorem compare2_N (a b c d : Int) (H : Heap) : Does Tryz.prog 74 [.seq 1 [[.val (.int .i64 a)], [.val (.int .i64 b)]], .seq 1 [[.val (.int .i64 c)], [.val (.int .i64 d)]]] H fun x H' => x = i64 (cmpF [a, b] [c, d]) ∧ H = H' :=
  compare_N [a, b] [c, d] H (by simp) (by simp)
def lexLt (q p : Int × Int) : Prop := q.1 < p.1 ∨ (q.1 = p.1 ∧ q.2 < p.2)
instance (q p : Int × Int) : Decidable (lexLt q p) := by unfold lexLt; exact inferInstance
theorem cmp_lex (q p : Int × Int) : (0 ≤ cmpF [q.1, q.2] [p.1, p.2]) ↔ ¬ lexLt q p := by
  unfold lexLt
  simp only [cmpF, cmpI]
  split <;> split <;> (try split) <;> omega
def preOK : Option (Int × Int) → Int × Int → Bool
  | none, _ => true
  | some q, p => decide (lexLt q p)
def chkF (n : Int) : Option (Int × Int) → List (Int × Int) → Nat
  | _, [] => 0
  | q, p :: l => if p.1 < 0 ∨ p.2 < 0 ∨ n ≤ p.1 ∨ n ≤ p.2 then 3 else if p.1 = p.2 then 2 else if preOK q p then chkF n (some p) l else 21
def checkR (l : List (Int × Int)) (n : Int) : Nat := if 65535 < l.length then 15 else chkF n none l
def prevR (l : List (Int × Int)) : Nat → Option (Int × Int)
  | 0 => none
  | i + 1 => l[i]?
theorem get_pairs {l : List (Int × Int)} {i : Nat} (h : i < l.length) : (l.map pD)[i]? = some [.val (.int .i64 l[i].1), .val (.int .i64 l[i].2)] := by
  rw [List.getElem?_map, List.getElem?_eq_getElem h]; rfl
def RcI (l : List (Int × Int)) (n : Int) (H : Heap) (i : Nat) (s : St) : Prop := s.df = [] ∧ s.fr 0 = .seq 2 (l.map pD) ∧ s.fr 1 = i64 n ∧ s.fr 10 = .seq 2 (l.map pD) ∧ s.fr 11 = i64 l.length ∧ s.fr 12 = i64 i ∧ H.le s.H ∧ chkF n none l = chkF n (prevR l i) (l.drop i)
set_option maxRecDepth 100000 in
theorem rcheck_N (l : List (Int × Int)) (n : Int) (H : Heap) (hl : l.length ≤ 140737488351232) : Does Tryz.prog 52 [.seq 2 (l.map pD), i64 n] H fun d H' => d = i64 (checkR l n) ∧ H = H' := by
  have hll : (List.map pD l).length = l.length := List.length_map _
  refine Does.frz (K := fun d => d = i64 (checkR l n)) ?_
  refine does_of _ _ Tryz.func52 rfl rfl Tryz.ntmps52 Tryz.results52 (by simp only [List.length_cons, List.length_nil]; omega) fun w0 g0 Q hret => ?_
  by_cases hb : 65535 < l.length
  · have q0 : ((65535 : Int) < (l.length : Int)) = True := eq_true (by omega)
    have hc : checkR l n = 15 := if_pos hb
    rw [hc] at hret
    (have fs := And.intro hll (And.intro @i64.eq_1 q0); (repeat (first | refine W_seq ?_ | refine W_block ?_ | refine W_skip ?_ | refine W_exit ?_ | refine W_ret ?_ | refine W_label ?_ | refine W_scope ?_ | ((first | refine W_opsQ (by kernel_rfl) ?_ | refine W_if ?_ | refine WL_goQ (by kernel_rfl) (by kernel_rfl) ?_); refine evQ ?_))); (try clear fs))
    have fs := hll; refine hret _ _ (by first | exact .inr rfl | exact .inl rfl) (by first | rfl | assumption | (simp only [put_df, withH_df]; assumption)) ?_; refine evQ ?_; clear fs
    exact ⟨_, Heap.le_refl _, Heap.le_refl _, _, frz_refl (Heap.le_refl _), rfl⟩
  have q0 : ((65535 : Int) < (l.length : Int)) = False := eq_false (by omega)
  have hc : checkR l n = chkF n none l := if_neg hb
  rw [hc] at hret
  (have fs := And.intro hll (And.intro @i64.eq_1 q0); (repeat (first | refine W_seq ?_ | refine W_block ?_ | refine W_skip ?_ | refine W_exit ?_ | refine W_ret ?_ | refine W_label ?_ | refine W_scope ?_ | ((first | refine W_opsQ (by kernel_rfl) ?_ | refine W_if ?_ | refine WL_goQ (by kernel_rfl) (by kernel_rfl) ?_); refine evQ ?_))); (try clear fs))
  refine W_loopN l.length (RcI l n H) ⟨rfl, rfl, rfl, rfl, rfl, rfl, Heap.le_refl _, rfl⟩ ?_
  rintro i s hi ⟨hdf, f0, f1, f10, f11, f12, hle, hck⟩
  have hx : (i : Int).toNat = i := Int.toNat_natCast _
  have h00 : (0 : Int) ≤ (i : Int) := Int.natCast_nonneg _
  by_cases hil : i < l.length
  case neg =>
    have q1 : ((i : Int) < (l.length : Int)) = False := eq_false (by omega)
    rw [List.drop_eq_nil_of_le (show l.length ≤ i by omega)] at hck
    (have fs := And.intro f10 (And.intro f11 (And.intro f12 (And.intro @i64.eq_1 q1))); (repeat (first | refine W_seq ?_ | refine W_block ?_ | refine W_skip ?_ | refine W_exit ?_ | refine W_ret ?_ | refine W_label ?_ | refine W_scope ?_ | ((first | refine W_opsQ (by kernel_rfl) ?_ | refine W_if ?_ | refine WL_goQ (by kernel_rfl) (by kernel_rfl) ?_); refine evQ ?_))); (try clear fs))
    have fs := hdf; refine hret _ _ (by first | exact .inr rfl | exact .inl rfl) (by first | rfl | assumption | (simp only [put_df, withH_df]; assumption)) ?_; refine evQ ?_; clear fs
    exact ⟨_, Heap.le_refl _, hle, _, frz_refl hle, by rw [hck]; rfl⟩
  have q1 : ((i : Int) < (l.length : Int)) = True := eq_true (by omega)
  have hgi := get_pairs hil
  have w3 : IntKind.i64.wrap ((i : Int) + 1) = ((i + 1 : Nat) : Int) := by rw [wrap_i64_of (by omega)]; omega
  rw [List.drop_eq_getElem_cons hil] at hck
  simp only [chkF] at hck
  (have fs := And.intro f0 (And.intro f1 (And.intro f10 (And.intro f11 (And.intro f12 (And.intro @i64.eq_1 (And.intro q1 (And.intro hgi (And.intro hx (And.intro h00 (And.intro hil hll)))))))))); (repeat (first | refine W_seq ?_ | refine W_block ?_ | refine W_skip ?_ | refine W_exit ?_ | refine W_ret ?_ | refine W_label ?_ | refine W_scope ?_ | ((first | refine W_opsQ (by kernel_rfl) ?_ | refine W_if ?_ | refine WL_goQ (by kernel_rfl) (by kernel_rfl) ?_); refine evQ ?_))); (try clear fs))
  intro b hb'
  refine frz 6 hb' ?_
  have fin : ∀ (e : Nat), chkF n none l = e → ∃ H', H'.le s.H ∧ H.le H' ∧ ∃ d0, Frz H H' (i64 e) d0 ∧ d0 = i64 (chkF n none l) := fun e he => ⟨_, Heap.le_refl _, hle, _, frz_refl hle, by rw [he]⟩
  by_cases h1 : min l[i].1 l[i].2 < 0
  · rw [if_pos (by omega)] at hck
    have p1 : (min l[i].1 l[i].2 < 0) = True := eq_true h1
    (have fs := And.intro f1 (And.intro f12 (And.intro @i64.eq_1 p1)); (repeat (first | refine W_seq ?_ | refine W_block ?_ | refine W_skip ?_ | refine W_exit ?_ | refine W_ret ?_ | refine W_label ?_ | refine W_scope ?_ | ((first | refine W_opsQ (by kernel_rfl) ?_ | refine W_if ?_ | refine WL_goQ (by kernel_rfl) (by kernel_rfl) ?_); refine evQ ?_))); (try clear fs))
    have fs := hdf; refine hret _ _ (by first | exact .inr rfl | exact .inl rfl) (by first | rfl | assumption | (simp only [put_df, withH_df]; assumption)) ?_; refine evQ ?_; clear fs
    exact fin 3 hck
  have p1 : (min l[i].1 l[i].2 < 0) = False := eq_false h1
  by_cases h2 : n ≤ max l[i].1 l[i].2
  · rw [if_pos (by omega)] at hck
    have p2 : (n ≤ max l[i].1 l[i].2) = True := eq_true h2
    (have fs := And.intro f1 (And.intro f12 (And.intro @i64.eq_1 (And.intro p1 p2))); (repeat (first | refine W_seq ?_ | refine W_block ?_ | refine W_skip ?_ | refine W_exit ?_ | refine W_ret ?_ | refine W_label ?_ | refine W_scope ?_ | ((first | refine W_opsQ (by kernel_rfl) ?_ | refine W_if ?_ | refine WL_goQ (by kernel_rfl) (by kernel_rfl) ?_); refine evQ ?_))); (try clear fs))
    have fs := hdf; refine hret _ _ (by first | exact .inr rfl | exact .inl rfl) (by first | rfl | assumption | (simp only [put_df, withH_df]; assumption)) ?_; refine evQ ?_; clear fs
    exact fin 3 hck
  have p2 : (n ≤ max l[i].1 l[i].2) = False := eq_false h2
  rw [if_neg (by omega)] at hck
  by_cases h3 : l[i].1 = l[i].2
  · rw [if_pos h3] at hck
    have p3 : (l[i].1 = l[i].2) = True := eq_true h3
    (have fs := And.intro f1 (And.intro f12 (And.intro @i64.eq_1 (And.intro p1 (And.intro p2 p3)))); (repeat (first | refine W_seq ?_ | refine W_block ?_ | refine W_skip ?_ | refine W_exit ?_ | refine W_ret ?_ | refine W_label ?_ | refine W_scope ?_ | ((first | refine W_opsQ (by kernel_rfl) ?_ | refine W_if ?_ | refine WL_goQ (by kernel_rfl) (by kernel_rfl) ?_); refine evQ ?_))); (try clear fs))
    have fs := hdf; refine hret _ _ (by first | exact .inr rfl | exact .inl rfl) (by first | rfl | assumption | (simp only [put_df, withH_df]; assumption)) ?_; refine evQ ?_; clear fs
    exact fin 2 hck
  have p3 : (l[i].1 = l[i].2) = False := eq_false h3
  rw [if_neg h3] at hck
  (have fs := And.intro f1 (And.intro f12 (And.intro @i64.eq_1 (And.intro p1 (And.intro p2 p3)))); (repeat (first | refine W_seq ?_ | refine W_block ?_ | refine W_skip ?_ | refine W_exit ?_ | refine W_ret ?_ | refine W_label ?_ | refine W_scope ?_ | ((first | refine W_opsQ (by kernel_rfl) ?_ | refine W_if ?_ | refine WL_goQ (by kernel_rfl) (by kernel_rfl) ?_); refine evQ ?_))); (try clear fs))
  by_cases hi0 : i = 0
  · have p4 : ((0 : Int) < (i : Int)) = False := eq_false (by omega)
    have hpr : prevR l i = none := by rw [hi0]; rfl
    rw [hpr] at hck
    simp only [preOK, if_true] at hck
    refine W_draw (fun _ _ _ _ => False) (by kernel_rfl) (by kernel_rfl) (by kernel_rfl) ?_; simp (maxSteps := 4000000) only [vX, vB, vT, vZ, vcOps, isCall, mmV, lkV, muV, keyVal, keyVals, mget_nil, ↓selV_eq, eqK, stepOp, clV, biV, bnU, nilU, binV, bInt, bStr, bNilP, bNilS, bNilM, nilOp, D.nilPtr, D.nilSl, D.nilMap, isBoolTy, unV, cwV, cvV, elsP, partV, fieldsOf, fieldV, faV, iaV, ixV, ldC, ldV, stV, D.cells, putAt, bxV, alV, bldD, placesOf, allSized, bdV, bsV, rowsD, mkV, bdN, slV, newsP, TD.notInt, TD.agg, azV, clrV, cpyV, cpV, lenV, minV, maxV, ncV, exV, condV, retV, thenQ, blockQ, Value.oneCell', forall_const, true_implies, ne_eq, reduceCtorEq, false_implies, eq_self, if_true, if_false, ↓reduceIte, Nat.reduceEqDiff, Int.reduceLE, Int.reduceLT, Int.reduceNeg, Int.reduceToNat, Nat.reduceAdd, Nat.reduceMul, Nat.reduceLeDiff, Nat.reduceMod, Nat.reduceSub, Int.reduceEq, Int.reduceNe, Int.reduceAdd, Int.reduceSub, Int.reduceMul, implies_true, wdf_fr, wdf_H, wdf_df, wdf_withH, thenQ_n, thenQ_r, blockQ_n, blockQ_r, roundQ_n, roundQ_r, noGotoQ_n, noGotoQ_r, noGotoQ_e, vcD, gOp, calmOp, St.out, Heap.add_none, Heap.add_upd, disj_upd_iff, disj_none_eq, Option.some.injEq, or_true, true_or, or_false, false_or, ↓calmEq, f0, f1, f12, i64, p4]
    (have fs := And.intro f12 (And.intro @i64.eq_1 w3); (repeat (first | refine W_seq ?_ | refine W_block ?_ | refine W_skip ?_ | refine W_exit ?_ | refine W_ret ?_ | refine W_label ?_ | refine W_scope ?_ | ((first | refine W_opsQ (by kernel_rfl) ?_ | refine W_if ?_ | refine WL_goQ (by kernel_rfl) (by kernel_rfl) ?_); refine evQ ?_))); (try clear fs))
    exact ⟨hil, hdf, f0, f1, f10, f11, rfl, hle, by rw [hck, prevR, List.getElem?_eq_getElem hil]⟩
  · obtain ⟨j, hj⟩ : ∃ j, i = j + 1 := ⟨i - 1, by omega⟩
    have hjl : j < l.length := by omega
    have p4 : ((0 : Int) < (i : Int)) = True := eq_true (by omega)
    have hgp := get_pairs hjl
    have w4 : IntKind.i64.wrap ((i : Int) - 1) = (j : Int) := by rw [wrap_i64_of (by omega)]; omega
    have h0j : (0 : Int) ≤ (j : Int) := Int.natCast_nonneg _
    have hxj : (j : Int).toNat = j := Int.toNat_natCast _
    have hlex := cmp_lex l[j] l[i]
    have hpr : prevR l i = some l[j] := by rw [hj, prevR, List.getElem?_eq_getElem hjl]
    rw [hpr] at hck
    simp only [preOK, decide_eq_true_eq] at hck
    by_cases h4 : lexLt l[j] l[i]
    · rw [if_pos h4] at hck
      have p5 : ((0 : Int) ≤ cmpF [l[j].1, l[j].2] [l[i].1, l[i].2]) = False := eq_false (fun h => hlex.1 h h4)
      refine W_draw (fun _ _ d A => A = .none ∧ d = i64 (cmpF [l[j].1, l[j].2] [l[i].1, l[i].2])) (by kernel_rfl) (by kernel_rfl) (by kernel_rfl) ?_; simp (maxSteps := 4000000) only [vX, vB, vT, vZ, vcOps, isCall, mmV, lkV, muV, keyVal, keyVals, mget_nil, ↓selV_eq, eqK, stepOp, clV, biV, bnU, nilU, binV, bInt, bStr, bNilP, bNilS, bNilM, nilOp, D.nilPtr, D.nilSl, D.nilMap, isBoolTy, unV, cwV, cvV, elsP, partV, fieldsOf, fieldV, faV, iaV, ixV, ldC, ldV, stV, D.cells, putAt, bxV, alV, bldD, placesOf, allSized, bdV, bsV, rowsD, mkV, bdN, slV, newsP, TD.notInt, TD.agg, azV, clrV, cpyV, cpV, lenV, minV, maxV, ncV, exV, condV, retV, thenQ, blockQ, Value.oneCell', forall_const, true_implies, ne_eq, reduceCtorEq, false_implies, eq_self, if_true, if_false, ↓reduceIte, Nat.reduceEqDiff, Int.reduceLE, Int.reduceLT, Int.reduceNeg, Int.reduceToNat, Nat.reduceAdd, Nat.reduceMul, Nat.reduceLeDiff, Nat.reduceMod, Nat.reduceSub, Int.reduceEq, Int.reduceNe, Int.reduceAdd, Int.reduceSub, Int.reduceMul, implies_true, wdf_fr, wdf_H, wdf_df, wdf_withH, thenQ_n, thenQ_r, blockQ_n, blockQ_r, roundQ_n, roundQ_r, noGotoQ_n, noGotoQ_r, noGotoQ_e, vcD, gOp, calmOp, St.out, Heap.add_none, Heap.add_upd, disj_upd_iff, disj_none_eq, Option.some.injEq, or_true, true_or, or_false, false_or, ↓calmEq, f0, f1, f12, i64, p4, p5, hgp, w4, h0j, hxj, hjl, hll]
      refine ⟨callOK_eq fun H'' _ => compare2_N l[j].1 l[j].2 l[i].1 l[i].2 H'', ?_⟩
      (have fs := And.intro f12 (And.intro @i64.eq_1 w3); (repeat (first | refine W_seq ?_ | refine W_block ?_ | refine W_skip ?_ | refine W_exit ?_ | refine W_ret ?_ | refine W_label ?_ | refine W_scope ?_ | ((first | refine W_opsQ (by kernel_rfl) ?_ | refine W_if ?_ | refine WL_goQ (by kernel_rfl) (by kernel_rfl) ?_); refine evQ ?_))); (try clear fs))
      exact ⟨hil, hdf, f0, f1, f10, f11, rfl, hle, by rw [hck, prevR, List.getElem?_eq_getElem hil]⟩
    · rw [if_neg h4] at hck
      have p5 : ((0 : Int) ≤ cmpF [l[j].1, l[j].2] [l[i].1, l[i].2]) = True := eq_true (hlex.2 h4)
      refine W_draw (fun _ _ d A => A = .none ∧ d = i64 (cmpF [l[j].1, l[j].2] [l[i].1, l[i].2])) (by kernel_rfl) (by kernel_rfl) (by kernel_rfl) ?_; simp (maxSteps := 4000000) only [vX, vB, vT, vZ, vcOps, isCall, mmV, lkV, muV, keyVal, keyVals, mget_nil, ↓selV_eq, eqK, stepOp, clV, biV, bnU, nilU, binV, bInt, bStr, bNilP, bNilS, bNilM, nilOp, D.nilPtr, D.nilSl, D.nilMap, isBoolTy, unV, cwV, cvV, elsP, partV, fieldsOf, fieldV, faV, iaV, ixV, ldC, ldV, stV, D.cells, putAt, bxV, alV, bldD, placesOf, allSized, bdV, bsV, rowsD, mkV, bdN, slV, newsP, TD.notInt, TD.agg, azV, clrV, cpyV, cpV, lenV, minV, maxV, ncV, exV, condV, retV, thenQ, blockQ, Value.oneCell', forall_const, true_implies, ne_eq, reduceCtorEq, false_implies, eq_self, if_true, if_false, ↓reduceIte, Nat.reduceEqDiff, Int.reduceLE, Int.reduceLT, Int.reduceNeg, Int.reduceToNat, Nat.reduceAdd, Nat.reduceMul, Nat.reduceLeDiff, Nat.reduceMod, Nat.reduceSub, Int.reduceEq, Int.reduceNe, Int.reduceAdd, Int.reduceSub, Int.reduceMul, implies_true, wdf_fr, wdf_H, wdf_df, wdf_withH, thenQ_n, thenQ_r, blockQ_n, blockQ_r, roundQ_n, roundQ_r, noGotoQ_n, noGotoQ_r, noGotoQ_e, vcD, gOp, calmOp, St.out, Heap.add_none, Heap.add_upd, disj_upd_iff, disj_none_eq, Option.some.injEq, or_true, true_or, or_false, false_or, ↓calmEq, f0, f1, f12, i64, p4, p5, hgp, w4, h0j, hxj, hjl, hll]
      refine ⟨callOK_eq fun H'' _ => compare2_N l[j].1 l[j].2 l[i].1 l[i].2 H'', ?_⟩
      (have fs := And.intro f12 @i64.eq_1; (repeat (first | refine W_seq ?_ | refine W_block ?_ | refine W_skip ?_ | refine W_exit ?_ | refine W_ret ?_ | refine W_label ?_ | refine W_scope ?_ | ((first | refine W_opsQ (by kernel_rfl) ?_ | refine W_if ?_ | refine WL_goQ (by kernel_rfl) (by kernel_rfl) ?_); refine evQ ?_))); (try clear fs))
      have fs := hdf; refine hret _ _ (by first | exact .inr rfl | exact .inl rfl) (by first | rfl | assumption | (simp only [put_df, withH_df]; assumption)) ?_; refine evQ ?_; clear fs
      exact fin 21 hck
set_option maxRecDepth 100000
set_option maxRecDepth 100000
inductive Reach (l : List (Int × Int)) : Int → Int → Prop
  | refl (a : Int) : Reach l a a
  | step {a b c : Int} : Reach l a b → (b, c) ∈ l → Reach l a c
theorem Reach.trans {l : List (Int × Int)} {a b c : Int} (h : Reach l a b) (h' : Reach l b c) : Reach l a c := by
  induction h' with
  | refl => exact h
  | step _ h2 ih => exact .step ih h2
theorem reach_closed {l : List (Int × Int)} {S : List Int} {a : Int} (ha : a ∈ S) (hc : ∀ x ∈ S, ∀ y, (x, y) ∈ l → y ∈ S) {b : Int} (h : Reach l a b) : b ∈ S := by
  induction h with
  | refl => exact ha
  | step _ h2 ih => exact hc _ ih _ h2
open Classical in
noncomputable def outlB (l : List (Int × Int)) (n a b : Int) : Bool := decide (InR n a ∧ InR n b ∧ Reach l a b)
open Classical in
theorem outlB_t {l : List (Int × Int)} {n a b : Int} (h : InR n a ∧ InR n b ∧ Reach l a b) : outlB l n a b = true := decide_eq_true h
open Classical in
theorem outlB_f {l : List (Int × Int)} {n a b : Int} (h : ¬ (InR n a ∧ InR n b ∧ Reach l a b)) : outlB l n a b = false := decide_eq_false h
def succs (l : List (Int × Int)) (x : Int) : List Int := (l.filter fun p => decide (p.1 = x)).map (·.2)
def preds (l : List (Int × Int)) (x : Int) : List Int := (l.filter fun p => decide (p.2 = x)).map (·.1)
theorem mem_succs {l : List (Int × Int)} {x y : Int} : y ∈ succs l x ↔ (x, y) ∈ l := by
  simp only [succs, List.mem_map, List.mem_filter, decide_eq_true_eq]
  constructor
  · rintro ⟨⟨a, b⟩, ⟨h1, rfl⟩, rfl⟩; exact h1
  · intro h; exact ⟨_, ⟨h, rfl⟩, rfl⟩
def optS (l : List Int) : Option D := if l = [] then none else some (.seq 1 (l.map iD))
def relD (n : Int) (b1 b2 : Nat) : D := .rp [i64 n, .val (.map (some b1)), .val (.map (some b2))]
def RelH (l : List (Int × Int)) (b1 b2 : Nat) (H : Heap) : Prop := ∃ m1 m2, H b1 = some (.map m1) ∧ IntM m1 (fun x => optS (succs l x)) ∧ H b2 = some (.map m2) ∧ IntM m2 (fun x => optS (preds l x))
theorem has_N (n a : Int) (b1 b2 : Nat) (H : Heap) : Does Tryz.prog 125 [relD n b1 b2, i64 a] H fun d H' => d = .val (.bool (decide (InR n a))) ∧ H = H' := by
  refine does_of _ _ Tryz.func125 rfl rfl Tryz.ntmps125 Tryz.results125 (by simp only [List.length_cons, List.length_nil]; omega) fun w0 g0 Q hret => ?_
  by_cases h1 : 0 ≤ a
  · have q1 : (0 ≤ a) = True := eq_true h1
    by_cases h2 : a < n
    · have q2 : (a < n) = True := eq_true h2
      have e : decide (InR n a) = true := decide_eq_true ⟨h1, h2⟩
      rw [e] at hret
      refine tq (cj4 @relD.eq_1 @i64.eq_1 q1 q2) ?_; intro Nx hNx Gx hGx
      have fs := @relD.eq_1; refine hret _ _ (by first | exact .inr rfl | exact .inl rfl) (by first | rfl | assumption | (simp only [put_df, withH_df]; assumption)) ?_; refine evQ ?_; clear fs; exact ⟨_, Heap.le_refl _, by first | rfl | exact ⟨rfl, rfl⟩ | assumption⟩
    · have q2 : (a < n) = False := eq_false h2
      have e : decide (InR n a) = false := decide_eq_false fun h => h2 h.2
      rw [e] at hret
      refine tq (cj4 @relD.eq_1 @i64.eq_1 q1 q2) ?_; intro Nx hNx Gx hGx
      have fs := @relD.eq_1; refine hret _ _ (by first | exact .inr rfl | exact .inl rfl) (by first | rfl | assumption | (simp only [put_df, withH_df]; assumption)) ?_; refine evQ ?_; clear fs; exact ⟨_, Heap.le_refl _, by first | rfl | exact ⟨rfl, rfl⟩ | assumption⟩
  · have q1 : (0 ≤ a) = False := eq_false h1
    have e : decide (InR n a) = false := decide_eq_false fun h => h1 h.1
    rw [e] at hret
    refine tq (cj3 @relD.eq_1 @i64.eq_1 q1) ?_; intro Nx hNx Gx hGx
    have fs := @relD.eq_1; refine hret _ _ (by first | exact .inr rfl | exact .inl rfl) (by first | rfl | assumption | (simp only [put_df, withH_df]; assumption)) ?_; refine evQ ?_; clear fs; exact ⟨_, Heap.le_refl _, by first | rfl | exact ⟨rfl, rfl⟩ | assumption⟩
structure Srch (l : List (Int × Int)) (n a : Int) (z : Option Int) (S q : List Int) : Prop where
  nd : S.Nodup
  inr : ∀ x ∈ S, InR n x ∧ Reach l a x
  st : a ∈ S
  qs : ∀ x ∈ q, x ∈ S
  cl : ∀ x ∈ S, x ∉ q → some x ≠ z → ∀ y, (x, y) ∈ l → y ∈ S
def OI (l : List (Int × Int)) (n a b : Int) (b1 b2 bm : Nat) (H : Heap) (k : Nat) (s : St) : Prop :=
  s.df = [] ∧ s.fr 0 = relD n b1 b2 ∧ s.fr 2 = i64 b ∧ s.fr 7 = .val (.map (some bm)) ∧ H.le s.H ∧ k ≤ 2 * n.toNat ∧ ∃ M S q ob, s.H bm = some (.map M) ∧ IntM M (trueB S) ∧ Gk H 3 1 (q.map iD) (s.fr 8) s.H ob ∧ ob ≠ some bm ∧ Srch l n a none S q ∧ 2 * (n.toNat - S.length) + q.length ≤ k
theorem outl_N (l : List (Int × Int)) (n a b : Int) (b1 b2 : Nat) (H : Heap) (hR : RelH l b1 b2 H) (hin : ∀ p ∈ l, InR n p.1 ∧ InR n p.2) (hn : n ≤ 1000000) (hl : l.length ≤ 1000000) : Does Tryz.prog 112 [relD n b1 b2, i64 a, i64 b] H fun d H' => d = .val (.bool (outlB l n a b)) ∧ H = H' := by
  refine Does.frz (K := fun d => d = .val (.bool (outlB l n a b))) ?_
  obtain ⟨m1, m2, hm1, hi1, hm2, hi2⟩ := hR
  refine does_of _ _ Tryz.func112 rfl rfl Tryz.ntmps112 Tryz.results112 (by simp only [List.length_cons, List.length_nil]; omega) fun w0 g0 Q hret => ?_
  refine tq @i64.eq_1 ?_; intro Nx hNx Gx hGx
  refine (has_N n a b1 b2 _).mono ?_
  rintro d _ ⟨rfl, rfl⟩
  by_cases ha : InR n a
  case neg =>
    rw [decide_eq_false ha]
    refine tq @i64.eq_1 ?_; intro Nx hNx Gx hGx
    have fs := @i64.eq_1; refine hret _ _ (by first | exact .inr rfl | exact .inl rfl) (by first | rfl | assumption | (simp only [put_df, withH_df]; assumption)) ?_; refine evQ ?_; clear fs
    exact ⟨_, Heap.le_refl _, Heap.le_refl _, _, frz_refl (Heap.le_refl _), by rw [outlB_f fun h => ha h.1]⟩
  rw [decide_eq_true ha]
  refine tq @i64.eq_1 ?_; intro Nx hNx Gx hGx
  refine (has_N n b b1 b2 _).mono ?_
  rintro d _ ⟨rfl, rfl⟩
  by_cases hb : InR n b
  case neg =>
    rw [decide_eq_false hb]
    refine tq @i64.eq_1 ?_; intro Nx hNx Gx hGx
    have fs := @i64.eq_1; refine hret _ _ (by first | exact .inr rfl | exact .inl rfl) (by first | rfl | assumption | (simp only [put_df, withH_df]; assumption)) ?_; refine evQ ?_; clear fs
    exact ⟨_, Heap.le_refl _, Heap.le_refl _, _, frz_refl (Heap.le_refl _), by rw [outlB_f fun h => hb h.2.1]⟩
  rw [decide_eq_true hb]
  unfold InR at ha hb
  have ha64 : -9223372036854775808 ≤ a ∧ a ≤ 9223372036854775807 := by omega
  have hb64 : -9223372036854775808 ≤ b ∧ b ≤ 9223372036854775807 := by omega
  have hk0 := IntM.nil.ok (P := Tryz.prog) Tryz.underlying3 ha64
  refine to @i64.eq_1 ?_; intro Nx hNx Gx hGx
  intro bm hbm
  refine ⟨hk0, ?_⟩
  have hk1 : IntM (mset [] (.int .i64 a) (.val (.bool true))) (trueB [a]) := ((IntM.nil.set ha64 (.val (.bool true))).congr fun x => by rw [← trueB_cons a [] x, ← trueB_nil])
  refine to @i64.eq_1 ?_; intro Nx hNx Gx hGx
  intro bq hbq
  obtain ⟨M, hM⟩ : ∃ M, M = mset [] (.int .i64 a) (.val (.bool true)) := ⟨_, rfl⟩
  rw [← hM] at hbq hk1 ⊢
  have hbm' : (H.upd bm (.map M)) bm = some (.map M) := Heap.upd_same _ _ _
  have nqm : bm ≠ bq := Heap.ne_of hbm' hbq
  have hq0 : H bq = none := (Heap.upd_none.1 hbq).2
  refine tq @i64.eq_1 ?_; intro Nx hNx Gx hGx
  refine W_loopM (OI l n a b b1 b2 bm H) (2 * (n.toNat - 1) + 1) ⟨rfl, rfl, rfl, rfl, Heap.le_put (Heap.le_put (Heap.le_refl _) hbm) hq0, by omega, M, [a], [a], some bq, (Heap.upd_ne nqm).trans hbm', hk1, .inr ⟨bq, 0, 0, [[i64 a]], rfl, rfl, hq0, Heap.upd_same _ _ _, rfl, by simp⟩, (fun e => nqm (by injection e with e; exact e.symm)), ⟨by simp, (by intro x hx; rw [List.mem_singleton] at hx; subst hx; exact ⟨ha, .refl _⟩), by simp, by simp, (by intro x hx hq; exact absurd hx hq)⟩, by simp⟩ ?_
  rintro k s ⟨hdf, f0, f2, f7, hle, hk, M, S, q, ob, hHm, hM2, hgk, hne, hS, hmu⟩
  cases q with
  | nil =>
    have hfin : ∀ v : Bool, (b ∈ S ↔ v = true) → v = outlB l n a b := fun v hv => by
      cases v with
      | true => rw [outlB_t ⟨ha, hb, (hS.inr b (hv.2 rfl)).2⟩]
      | false => rw [outlB_f]; rintro ⟨_, _, hr⟩; exact absurd (hv.1 (reach_closed hS.st (fun x hx y hy => hS.cl x hx (by simp) (by simp) y hy) hr)) (by simp)
    have hlk := hM2.get b
    have hkok := hM2.ok (P := Tryz.prog) Tryz.underlying3 hb64
    have q0 : ∃ c o k', s.fr 8 = .val (.slice none 0 0) ∨ s.fr 8 = .os c o 1 k' 0 := by
      rcases hgk with ⟨_, h, _⟩ | ⟨c, o, k', _, _, h, _⟩
      · exact ⟨0, 0, 0, .inl h⟩
      · exact ⟨c, o, k', .inr h⟩
    obtain ⟨c, o, k', q0⟩ := q0
    by_cases hbS : b ∈ S
    · have hl2 : trueB S b = some (.val (.bool true)) := if_pos hbS
      rw [hl2] at hlk
      have hv := hfin true (by simp [hbS])
      rcases q0 with f8 | f8
      · refine tq (cj6 f2 f7 f8 @i64.eq_1 hHm hlk) ?_; intro Nx hNx Gx hGx; refine ⟨hkok, ?_⟩; refine tq (cj4 f2 f7 f8 @i64.eq_1) ?_; intro Nx hNx Gx hGx; refine rt hret hdf ?_; exact ⟨_, Heap.le_refl _, hle, _, frz_refl hle, by rw [hv]⟩
      · refine tq (cj6 f2 f7 f8 @i64.eq_1 hHm hlk) ?_; intro Nx hNx Gx hGx; refine ⟨hkok, ?_⟩; refine tq (cj4 f2 f7 f8 @i64.eq_1) ?_; intro Nx hNx Gx hGx; refine rt hret hdf ?_; exact ⟨_, Heap.le_refl _, hle, _, frz_refl hle, by rw [hv]⟩
    · have hl2 : trueB S b = none := if_neg hbS
      rw [hl2] at hlk
      have hv := hfin false (by simp [hbS])
      rcases q0 with f8 | f8
      · refine tq (cj6 f2 f7 f8 @i64.eq_1 hHm hlk) ?_; intro Nx hNx Gx hGx; refine ⟨hkok, ?_⟩; refine tq (cj4 f2 f7 f8 @i64.eq_1) ?_; intro Nx hNx Gx hGx; refine rt hret hdf ?_; exact ⟨_, Heap.le_refl _, hle, _, frz_refl hle, by rw [hv]⟩
      · refine tq (cj6 f2 f7 f8 @i64.eq_1 hHm hlk) ?_; intro Nx hNx Gx hGx; refine ⟨hkok, ?_⟩; refine tq (cj4 f2 f7 f8 @i64.eq_1) ?_; intro Nx hNx Gx hGx; refine rt hret hdf ?_; exact ⟨_, Heap.le_refl _, hle, _, frz_refl hle, by rw [hv]⟩
  | cons x q =>
    obtain ⟨c, o, kq, els0, hob, f8, hc0, hHc, hd1, hk1', hgx, hd2, hk2'⟩ := Gk.cons (show Gk H 3 1 (iD x :: q.map iD) (s.fr 8) s.H ob from hgk)
    have hxS := hS.inr x (hS.qs x (by simp))
    have hx64 : -9223372036854775808 ≤ x ∧ x ≤ 9223372036854775807 := by have := hxS.1; unfold InR at this; omega
    rw [List.length_map] at f8
    have q1 : ((0 : Int) < ((q.length + 1 : Nat) : Int)) = True := eq_true (by omega)
    have hgx' : els0[kq]? = some [.val (.int .i64 x)] := hgx
    have w1 : ((1 : Int) ≤ ((q.length + 1 : Nat) : Int)) = True := eq_true (by omega)
    have hm1' : s.H b1 = some (.map m1) := hle _ _ hm1
    have hkx := hi1.ok (P := Tryz.prog) Tryz.underlying3 hx64
    have hgm := hi1.get x
    (have fs := And.intro f0 (And.intro f2 (And.intro f7 (And.intro f8 (And.intro @i64.eq_1 (And.intro q1 (And.intro w1 (And.intro hHc hgx'))))))); (iterate 10 (first | refine hGx _ ?_ | refine hNx _ ?_ | refine W_skip ?_ | refine W_exit ?_ | refine W_ret ?_ | refine W_label ?_ | refine W_scope ?_ | refine W_block ?_ | refine W_seq ?_ | ((first | refine tS fun Nx hNx => ?_ | refine WL_gE rfl rfl (by kernel_rfl) (by kernel_rfl) fun Gx hGx => ?_ | refine vcOpsS_sound (by kernel_rfl) ?_ | refine W_ifE fun A B hAx hBx => ?_); refine evT ?_; (first | refine hGx _ ?_ | refine hNx _ ?_ | refine hAx ?_ | refine hBx ?_ | skip)))); (try clear fs))
    have hob' : c ≠ bm := fun e => hne (by rw [hob, e])
    refine W_midA 40 (.val (.slice none 0 0)) (.seq 1 []) imp_nil (fun s' => s'.df = [] ∧ s'.fr 0 = relD n b1 b2 ∧ s'.fr 2 = i64 b ∧ s'.fr 7 = .val (.map (some bm)) ∧ s'.fr 8 = .os c o 1 (kq + 1) q.length ∧ s'.fr 40 = .seq 1 ((succs l x).map iD) ∧ s'.fr 41 = i64 (succs l x).length ∧ s'.fr 42 = i64 0 ∧ s'.H = s.H) ?_ ?_
    · unfold optS at hgm
      by_cases hsx : succs l x = []
      · rw [if_pos hsx] at hgm
        refine tq (cj7 f0 f2 f7 @i64.eq_1 @relD.eq_1 hm1' hgm) ?_; intro Nx hNx Gx hGx
        refine ⟨hkx, hNx _ (.inr ⟨rfl, hdf, f0, f2, f7, rfl, by rw [hsx]; rfl, by rw [hsx]; rfl, rfl, rfl⟩)⟩
      · rw [if_neg hsx] at hgm
        refine tq (cj7 f0 f2 f7 @i64.eq_1 @relD.eq_1 hm1' hgm) ?_; intro Nx hNx Gx hGx
        refine ⟨hkx, hNx _ (.inl ⟨hdf, f0, f2, f7, rfl, rfl, rfl, rfl, rfl⟩)⟩
    rintro s1 ⟨hdf1, g0, g2, g7, g8, g40, g41, g42, hH1⟩
    have hsl : (succs l x).length ≤ l.length := by unfold succs; rw [List.length_map]; exact List.length_filter_le _ _
    have hq2 : (els0.drop (kq + 1)) = q.map iD := hd2
    refine W_block ?_
    refine W_loopN (succs l x).length (fun i s => s.df = [] ∧ s.fr 0 = relD n b1 b2 ∧ s.fr 2 = i64 b ∧ s.fr 7 = .val (.map (some bm)) ∧ s.fr 40 = .seq 1 ((succs l x).map iD) ∧ s.fr 41 = i64 (succs l x).length ∧ s.fr 42 = i64 i ∧ H.le s.H ∧ ∃ M S q ob, s.H bm = some (.map M) ∧ IntM M (trueB S) ∧ Gk H 3 1 (q.map iD) (s.fr 8) s.H ob ∧ ob ≠ some bm ∧ Srch l n a (some x) S q ∧ x ∈ S ∧ (∀ j (h : j < i) (h2 : j < (succs l x).length), (succs l x)[j] ∈ S) ∧ 2 * (n.toNat - S.length) + q.length < k) ?_ ?_
    · refine ⟨hdf1, g0, g2, g7, g40, g41, g42, by rw [hH1]; exact hle, M, S, q, some c, by rw [hH1]; exact hHm, hM2, .inr ⟨c, o, kq + 1, els0, rfl, by rw [g8, List.length_map], hc0, by rw [hH1]; exact hHc, hd2, hk2'⟩, (fun e => hob' (by injection e)), ⟨hS.nd, hS.inr, hS.st, fun y hy => hS.qs y (by simp [hy]), fun z hz hzq hzx y hy => hS.cl z hz (by simp [hzq]; intro e; exact hzx (by rw [e])) (by simp) y hy⟩, hS.qs x (by simp), by omega, by simp at hmu; omega⟩
    rintro i s2 hi ⟨hdf2, k0, k2, k7, k40, k41, k42, hle2, M3, S3, q3, ob3, hHm3, hM3, hgk3, hne3, hS3, hxS3, hsu, hmu3⟩
    have hx2 : (i : Int).toNat = i := Int.toNat_natCast _
    have h00 : (0 : Int) ≤ (i : Int) := Int.natCast_nonneg _
    have hll2 : (List.map iD (succs l x)).length = (succs l x).length := List.length_map _
    by_cases hil : i < (succs l x).length
    case neg =>
      have p1 : ((i : Int) < ((succs l x).length : Int)) = False := eq_false (by omega)
      refine tq (cj4 k41 k42 @i64.eq_1 p1) ?_; intro Nx hNx Gx hGx
      refine ⟨_, ?_, hdf2, k0, k2, k7, hle2, ?_, M3, S3, q3, ob3, hHm3, hM3, hgk3, hne3, ⟨hS3.nd, hS3.inr, hS3.st, hS3.qs, fun z hz hzq _ y hy => ?_⟩, Nat.le_refl _⟩
      · exact hmu3
      · omega
      · by_cases hzx : z = x
        · subst hzx
          obtain ⟨j, hj, rfl⟩ := List.getElem_of_mem (mem_succs.2 hy)
          exact hsu j (by omega) hj
        · exact hS3.cl z hz hzq (by simpa using hzx) y hy
    have p1 : ((i : Int) < ((succs l x).length : Int)) = True := eq_true (by omega)
    have hgi := get_ints hil
    obtain ⟨y, hy⟩ : ∃ y, y = (succs l x)[i] := ⟨_, rfl⟩
    rw [← hy] at hgi
    have hyl : (x, y) ∈ l := mem_succs.1 (by rw [hy]; exact List.getElem_mem hil)
    have hyR := (hin _ hyl).2
    have hy64 : -9223372036854775808 ≤ y ∧ y ≤ 9223372036854775807 := by have := hyR; unfold InR at this; simp only at this; omega
    have w3 : IntKind.i64.wrap ((i : Int) + 1) = ((i + 1 : Nat) : Int) := by rw [wrap_i64_of (by omega)]; omega
    have hkb := hM3.ok (P := Tryz.prog) Tryz.underlying3 hb64
    have hky := hM3.ok (P := Tryz.prog) Tryz.underlying3 hy64
    by_cases hyb : y = b
    · have p2 : (y = b) = True := eq_true hyb
      refine tq (cj14 k2 k7 k40 k41 k42 @i64.eq_1 p1 p2 hgi hx2 h00 hil hll2 hHm3) ?_; intro Nx hNx Gx hGx
      refine ⟨hkb, ?_⟩
      have hMb := hM3.set hb64 (.val (.bool true))
      have hkb2 := hMb.ok (P := Tryz.prog) Tryz.underlying3 hb64
      have hlk2 := mget_mset_same M3 (.int .i64 b) (.val (.bool true))
      obtain ⟨M4, hM4⟩ : ∃ M4, M4 = mset M3 (.int .i64 b) (.val (.bool true)) := ⟨_, rfl⟩
      rw [← hM4] at hkb2 hlk2 ⊢
      have hm4 : (s2.H.upd bm (.map M4)) bm = some (.map M4) := Heap.upd_same _ _ _
      have hle4 : H.le (s2.H.upd bm (.map M4)) := Heap.le_put hle2 hbm
      refine tq (cj4 k2 k7 @i64.eq_1 hlk2) ?_; intro Nx hNx Gx hGx
      refine ⟨hkb2, ?_⟩
      refine tq (cj3 k2 k7 @i64.eq_1) ?_; intro Nx hNx Gx hGx
      refine rt hret hdf2 ?_
      refine ⟨_, Heap.le_refl _, hle4, _, frz_refl hle4, ?_⟩
      rw [outlB_t ⟨ha, hb, (hxS.2).step (hyb ▸ hyl)⟩]
    have p2 : (y = b) = False := eq_false hyb
    have hlk3 := hM3.get y
    by_cases hyS : y ∈ S3
    · have hl2 : trueB S3 y = some (.val (.bool true)) := if_pos hyS
      rw [hl2] at hlk3
      refine tq (cj15 k2 k7 k40 k41 k42 @i64.eq_1 p1 p2 hgi hx2 h00 hil hll2 hHm3 hlk3) ?_; intro Nx hNx Gx hGx
      refine ⟨hky, ?_⟩
      refine tq (cj5 k2 k7 k42 @i64.eq_1 w3) ?_; intro Nx hNx Gx hGx
      refine ⟨hil, hdf2, k0, k2, k7, k40, k41, rfl, hle2, M3, S3, q3, ob3, hHm3, hM3, hgk3, hne3, hS3, hxS3, fun j hj h2 => ?_, hmu3⟩
      by_cases hji : j = i
      · subst hji; rw [← hy]; exact hyS
      · exact hsu j (by omega) h2
    · have hl2 : trueB S3 y = none := if_neg hyS
      rw [hl2] at hlk3
      refine tq (cj15 k2 k7 k40 k41 k42 @i64.eq_1 p1 p2 hgi hx2 h00 hil hll2 hHm3 hlk3) ?_; intro Nx hNx Gx hGx
      refine ⟨hky, ?_⟩
      refine tq (cj5 k2 k7 k42 @i64.eq_1 hHm3) ?_; intro Nx hNx Gx hGx
      refine ⟨hky, ?_⟩
      have hMy : IntM (mset M3 (.int .i64 y) (.val (.bool true))) (trueB (y :: S3)) := (hM3.set hy64 (.val (.bool true))).congr (trueB_cons y S3)
      obtain ⟨M4, hM4⟩ : ∃ M4, M4 = mset M3 (.int .i64 y) (.val (.bool true)) := ⟨_, rfl⟩
      rw [← hM4] at hMy ⊢
      have hm4 : (s2.H.upd bm (.map M4)) bm = some (.map M4) := Heap.upd_same _ _ _
      have hle4 : H.le (s2.H.upd bm (.map M4)) := Heap.le_put hle2 hbm
      have hgk4 : Gk H 3 1 (q3.map iD) (s2.fr 8) (s2.H.upd bm (.map M4)) ob3 := hgk3.keep fun c' hc' => Heap.upd_ne fun e => hne3 (by rw [hc', e])
      refine tq (cj5 k2 k7 k42 @i64.eq_1 w3) ?_; intro Nx hNx Gx hGx
      have hnd : (y :: S3).Nodup := List.nodup_cons.2 ⟨hyS, hS3.nd⟩
      have hinr : ∀ z ∈ y :: S3, InR n z ∧ Reach l a z := fun z hz => by
        rcases List.mem_cons.1 hz with rfl | hz
        · exact ⟨hyR, hxS.2.step hyl⟩
        · exact hS3.inr z hz
      have hle5 := nodup_le hnd fun z hz => (hinr z hz).1
      refine apV_growK (e := 3) ty48 rfl ty48 rfl ty3 rfl (by decide) hle4 hgk4 (new := [iD y]) (by exact ⟨rfl, rfl⟩) (by rw [List.length_map]; show (_ + 1) * 8 ≤ _; omega) fun d H6 ob6 hg6 hle6 hp6 => ?_
      have hm6 := hp6 _ _ hm4 hne3
      rw [show [iD y] = [y].map iD from rfl, ← List.map_append] at hg6
      refine tq (cj5 k2 k7 k42 @i64.eq_1 w3) ?_; intro Nx hNx Gx hGx
      refine ⟨hil, hdf2, k0, k2, k7, k40, k41, rfl, hle6, M4, y :: S3, q3 ++ [y], ob6, hm6.1, hMy, Gk.of hg6, hm6.2, ⟨hnd, hinr, List.mem_cons_of_mem _ hS3.st, ?_, ?_⟩, List.mem_cons_of_mem _ hxS3, ?_, ?_⟩
      · intro z hz
        rcases List.mem_append.1 hz with hz | hz
        · exact List.mem_cons_of_mem _ (hS3.qs z hz)
        · rw [List.mem_singleton] at hz; subst hz; exact List.mem_cons_self
      · intro z hz hzq hzx y' hy'
        rcases List.mem_cons.1 hz with rfl | hz
        · exact absurd (List.mem_append.2 (.inr (by simp))) hzq
        · exact List.mem_cons_of_mem _ (hS3.cl z hz (fun h => hzq (List.mem_append.2 (.inl h))) hzx y' hy')
      · intro j hj h2
        by_cases hji : j = i
        · subst hji; rw [← hy]; exact List.mem_cons_self
        · exact List.mem_cons_of_mem _ (hsu j (by omega) h2)
      · rw [List.length_append, List.length_cons, List.length_singleton] at *
        omega
def HsI (l : List Int) (x : Int) (H : Heap) (i : Nat) (s : St) : Prop := s.df = [] ∧ s.fr 0 = .seq 1 (l.map iD) ∧ s.fr 1 = i64 x ∧ s.fr 5 = i64 i ∧ s.H = H ∧ x ∉ l.take i
theorem hasP_N (l : List Int) (x : Int) (hl : l.length ≤ 140737488351232) : Does Tryz.prog 117 [.seq 1 (l.map iD), i64 x] .none fun d _ => d = .val (.bool (decide (x ∈ l))) := by
  have hll : (List.map iD l).length = l.length := List.length_map _
  refine does_of _ _ Tryz.func117 rfl rfl Tryz.ntmps117 Tryz.results117 (by simp only [List.length_cons, List.length_nil]; omega) fun w0 g0 Q hret => ?_
  refine tq @i64.eq_1 ?_; intro Nx hNx Gx hGx
  refine W_loopN l.length (HsI l x .none) ⟨rfl, rfl, rfl, rfl, rfl, by simp⟩ ?_
  rintro i s hi ⟨hdf, f0, f1, f5, hH, hn⟩
  have hx : (i : Int).toNat = i := Int.toNat_natCast _
  have h00 : (0 : Int) ≤ (i : Int) := Int.natCast_nonneg _
  by_cases hil : i < l.length
  case neg =>
    have q1 : ((i : Int) < (l.length : Int)) = False := eq_false (by omega)
    rw [List.take_of_length_le (show l.length ≤ i by omega)] at hn
    refine tq (cj6 f0 f1 f5 @i64.eq_1 hll q1) ?_; intro Nx hNx Gx hGx
    refine rt hret hdf ?_
    exact ⟨_, Heap.le_refl _, by rw [decide_eq_false hn]⟩
  have q1 : ((i : Int) < (l.length : Int)) = True := eq_true (by omega)
  have hgi := get_ints hil
  have w3 : IntKind.i64.wrap ((i : Int) + 1) = ((i + 1 : Nat) : Int) := by rw [wrap_i64_of (by omega)]; omega
  by_cases h2 : l[i] = x
  · have q2 : (l[i] = x) = True := eq_true h2
    have hm : x ∈ l := h2 ▸ List.getElem_mem hil
    refine tq (cj11 f0 f1 f5 @i64.eq_1 hll q1 q2 hgi hx h00 hil) ?_; intro Nx hNx Gx hGx
    refine rt hret hdf ?_
    exact ⟨_, Heap.le_refl _, by rw [decide_eq_true hm]⟩
  · have q2 : (l[i] = x) = False := eq_false h2
    refine tq (cj12 f0 f1 f5 @i64.eq_1 hll q1 q2 hgi hx h00 hil w3) ?_; intro Nx hNx Gx hGx
    refine ⟨hil, hdf, f0, f1, rfl, hH, ?_⟩
    rw [List.take_succ_eq_append_getElem hil]
    intro hm
    rcases List.mem_append.1 hm with hm | hm
    · exact hn hm
    · rw [List.mem_singleton] at hm; exact h2 hm.symm
theorem has_at {H : Heap} {d : D} {l : List Int} {x : Int} (he : elsP H 1 d (· = l.map iD)) (hl : l.length ≤ 140737488351232) : Does Tryz.prog 117 [d, i64 x] H fun r H' => r = .val (.bool (decide (x ∈ l))) ∧ H = H' :=
  pure_D (hasP_N l x hl) rfl (vws2 (vw_els he) (vw_refl _ _))
def KO (l : List (Int × Int)) (n a b : Int) (H : Heap) (s : St) (i : Nat) (S : List Int) (z : Option Int) : Prop :=
  s.df = [] ∧ s.fr 0 = .seq 2 (l.map pD) ∧ s.fr 1 = i64 n ∧ s.fr 2 = i64 a ∧ s.fr 3 = i64 b ∧ s.fr 10 = i64 i ∧ H.le s.H ∧ (∃ c o, s.fr 9 = .os c o 1 0 S.length ∧ H c = none ∧ s.H c = some (.row 3 o 1 (S.map iD))) ∧ Srch l n a z S (S.drop i) ∧ b ∉ S.take i
theorem koutl_N (l : List (Int × Int)) (n a b : Int) (H : Heap) (hin : ∀ p ∈ l, InR n p.1 ∧ InR n p.2) (hn : n ≤ 1000000) (hl : l.length ≤ 1000000) : Does Tryz.prog 92 [.seq 2 (l.map pD), i64 n, i64 a, i64 b] H fun d H' => d = .val (.bool (outlB l n a b)) ∧ H = H' := by
  refine Does.frz (K := fun d => d = .val (.bool (outlB l n a b))) ?_
  have hll : (List.map pD l).length = l.length := List.length_map _
  refine does_of _ _ Tryz.func92 rfl rfl Tryz.ntmps92 Tryz.results92 (by simp only [List.length_cons, List.length_nil]; omega) fun w0 g0 Q hret => ?_
  by_cases h1 : a < 0
  · have p1 : (a < 0) = True := eq_true h1
    refine tq (cj2 @i64.eq_1 p1) ?_; intro Nx hNx Gx hGx
    refine rt hret @i64.eq_1 ?_
    exact ⟨_, Heap.le_refl _, Heap.le_refl _, _, frz_refl (Heap.le_refl _), by rw [outlB_f fun h => by have := h.1.1; omega]⟩
  have p1 : (a < 0) = False := eq_false h1
  by_cases h2 : n ≤ a
  · have p2 : (n ≤ a) = True := eq_true h2
    refine tq (cj3 @i64.eq_1 p1 p2) ?_; intro Nx hNx Gx hGx
    refine rt hret @i64.eq_1 ?_
    exact ⟨_, Heap.le_refl _, Heap.le_refl _, _, frz_refl (Heap.le_refl _), by rw [outlB_f fun h => by have := h.1.2; omega]⟩
  have p2 : (n ≤ a) = False := eq_false h2
  by_cases h3 : b < 0
  · have p3 : (b < 0) = True := eq_true h3
    refine tq (cj4 @i64.eq_1 p1 p2 p3) ?_; intro Nx hNx Gx hGx
    refine rt hret @i64.eq_1 ?_
    exact ⟨_, Heap.le_refl _, Heap.le_refl _, _, frz_refl (Heap.le_refl _), by rw [outlB_f fun h => by have := h.2.1.1; omega]⟩
  have p3 : (b < 0) = False := eq_false h3
  by_cases h4 : n ≤ b
  · have p4 : (n ≤ b) = True := eq_true h4
    refine tq (cj5 @i64.eq_1 p1 p2 p3 p4) ?_; intro Nx hNx Gx hGx
    refine rt hret @i64.eq_1 ?_
    exact ⟨_, Heap.le_refl _, Heap.le_refl _, _, frz_refl (Heap.le_refl _), by rw [outlB_f fun h => by have := h.2.1.2; omega]⟩
  have p4 : (n ≤ b) = False := eq_false h4
  have ha : InR n a := ⟨by omega, by omega⟩
  have hb : InR n b := ⟨by omega, by omega⟩
  refine to (cj5 @i64.eq_1 p1 p2 p3 p4) ?_; intro Nx hNx Gx hGx
  intro c hc
  refine tq @i64.eq_1 ?_; intro Nx hNx Gx hGx
  refine W_loopM (fun k s => ∃ i S, KO l n a b H s i S none ∧ i ≤ S.length ∧ k = n.toNat - i) n.toNat ⟨0, [a], ⟨rfl, rfl, rfl, rfl, rfl, rfl, Heap.le_put (Heap.le_refl _) hc, ⟨c, 0, rfl, hc, Heap.upd_same _ _ _⟩, ⟨by simp, (by intro x hx; rw [List.mem_singleton] at hx; subst hx; exact ⟨ha, .refl _⟩), by simp, by simp, (by intro x hx hq; exact absurd hx hq)⟩, by simp⟩, by simp, by omega⟩ ?_
  rintro k s ⟨i, S, ⟨hdf, f0, f1, f2, f3, f10, hle, ⟨c', o, f9, hc0, hHc⟩, hS, hbS⟩, hiS, hk⟩
  have hSn := nodup_le hS.nd fun z hz => (hS.inr z hz).1
  have hx : (i : Int).toNat = i := Int.toNat_natCast _
  have h00 : (0 : Int) ≤ (i : Int) := Int.natCast_nonneg _
  by_cases hil : i < S.length
  case neg =>
    have q1 : ((i : Int) < (S.length : Int)) = False := eq_false (by omega)
    rw [List.take_of_length_le (show S.length ≤ i by omega)] at hbS
    have hcl : ∀ x ∈ S, ∀ y, (x, y) ∈ l → y ∈ S := fun x hx y hy => hS.cl x hx (by rw [List.drop_eq_nil_of_le (by omega)]; simp) (by simp) y hy
    refine tq (cj4 f9 f10 @i64.eq_1 q1) ?_; intro Nx hNx Gx hGx
    refine rt hret hdf ?_
    exact ⟨_, Heap.le_refl _, hle, _, frz_refl hle, by rw [outlB_f fun h => hbS (reach_closed hS.st hcl h.2.2)]⟩
  have q1 : ((i : Int) < (S.length : Int)) = True := eq_true (by omega)
  have hgi := get_ints hil
  obtain ⟨x, hxe⟩ : ∃ x, x = S[i] := ⟨_, rfl⟩
  rw [← hxe] at hgi
  have hxS : x ∈ S := hxe ▸ List.getElem_mem hil
  by_cases hxb : x = b
  · have q2 : (x = b) = True := eq_true hxb
    refine tq (cj10 f3 f9 f10 @i64.eq_1 q1 q2 hHc hgi hx h00) ?_; intro Nx hNx Gx hGx
    refine rt hret hdf ?_
    exact ⟨_, Heap.le_refl _, hle, _, frz_refl hle, by rw [outlB_t ⟨ha, hb, hxb ▸ (hS.inr x hxS).2⟩]⟩
  have q2 : (x = b) = False := eq_false hxb
  refine tq (cj10 f3 f9 f10 @i64.eq_1 q1 q2 hHc hgi hx h00) ?_; intro Nx hNx Gx hGx
  have hSi : S.drop i = x :: S.drop (i + 1) := by rw [List.drop_eq_getElem_cons hil, ← hxe]
  have hbS2 : b ∉ S.take (i + 1) := by
    rw [List.take_succ_eq_append_getElem hil, ← hxe]
    intro hm
    rcases List.mem_append.1 hm with hm | hm
    · exact hbS hm
    · rw [List.mem_singleton] at hm; exact hxb hm.symm
  refine W_loopN l.length (fun j s => s.df = [] ∧ s.fr 0 = .seq 2 (l.map pD) ∧ s.fr 1 = i64 n ∧ s.fr 2 = i64 a ∧ s.fr 3 = i64 b ∧ s.fr 10 = i64 i ∧ s.fr 11 = i64 j ∧ H.le s.H ∧ ∃ S, (∃ c o, s.fr 9 = .os c o 1 0 S.length ∧ H c = none ∧ s.H c = some (.row 3 o 1 (S.map iD))) ∧ Srch l n a (some x) S (S.drop (i + 1)) ∧ S[i]? = some x ∧ b ∉ S.take (i + 1) ∧ ∀ m (h : m < l.length), m < j → l[m].1 = x → l[m].2 ∈ S) ?_ ?_
  · exact ⟨hdf, f0, f1, f2, f3, f10, rfl, hle, S, ⟨c', o, f9, hc0, hHc⟩, ⟨hS.nd, hS.inr, hS.st, fun z hz => hS.qs z (by rw [hSi]; exact List.mem_cons_of_mem _ hz), fun z hz hzq hzx y hy => hS.cl z hz (by rw [hSi]; intro hm; rcases List.mem_cons.1 hm with hm | hm; exact hzx (by rw [hm]); exact hzq hm) (by simp) y hy⟩, by rw [List.getElem?_eq_getElem hil, hxe], hbS2, fun m h hm => by omega⟩
  rintro j s2 hj ⟨hdf2, g0, g1, g2, g3, g10, g11, hle2, S2, ⟨c2, o2, g9, hc02, hHc2⟩, hS2, hS2i, hbS3, hcl2⟩
  have hi2 : i < S2.length := (List.getElem?_eq_some_iff.1 hS2i).1
  have hS2n := nodup_le hS2.nd fun z hz => (hS2.inr z hz).1
  have hjx : (j : Int).toNat = j := Int.toNat_natCast _
  have h0j : (0 : Int) ≤ (j : Int) := Int.natCast_nonneg _
  by_cases hjl : j < l.length
  case neg =>
    have q3 : ((j : Int) < (l.length : Int)) = False := eq_false (by omega)
    have w3 : IntKind.i64.wrap ((i : Int) + 1) = ((i + 1 : Nat) : Int) := by rw [wrap_i64_of (by omega)]; omega
    refine tq (cj7 g0 g10 g11 @i64.eq_1 hll q3 w3) ?_; intro Nx hNx Gx hGx
    refine ⟨n.toNat - (i + 1), (show _ < _ by omega), i + 1, S2, ⟨hdf2, g0, g1, g2, g3, rfl, hle2, ⟨c2, o2, g9, hc02, hHc2⟩, ⟨hS2.nd, hS2.inr, hS2.st, hS2.qs, fun z hz hzq _ y hy => ?_⟩, hbS3⟩, by omega, rfl⟩
    by_cases hzx : z = x
    · subst hzx
      obtain ⟨m, hm, he⟩ := List.getElem_of_mem hy
      have := hcl2 m hm (by omega) (by rw [he])
      rwa [he] at this
    · exact hS2.cl z hz hzq (by simpa using hzx) y hy
  have q3 : ((j : Int) < (l.length : Int)) = True := eq_true (by omega)
  have hgj := get_pairs hjl
  have hgi2 : (S2.map iD)[i]? = some [.val (.int .i64 x)] := by rw [List.getElem?_map, hS2i]; rfl
  have w4 : IntKind.i64.wrap ((j : Int) + 1) = ((j + 1 : Nat) : Int) := by rw [wrap_i64_of (by omega)]; omega
  have q4 : ((i : Int) < (S2.length : Int)) = True := eq_true (by omega)
  obtain ⟨u, hu⟩ : ∃ u, u = l[j].1 := ⟨_, rfl⟩
  obtain ⟨v, hv⟩ : ∃ v, v = l[j].2 := ⟨_, rfl⟩
  rw [← hu, ← hv] at hgj
  have huv : (u, v) ∈ l := by rw [hu, hv]; exact List.getElem_mem hjl
  refine tq (cj5 g0 g11 @i64.eq_1 hll q3) ?_; intro Nx hNx Gx hGx
  by_cases hux : u = x
  case neg =>
    have q5 : (u = x) = False := eq_false hux
    refine W_drawE (fun _ _ _ _ => False) (by kernel_rfl) (by kernel_rfl) (by kernel_rfl) fun Nx hNx => ?_; refine dst (cj15 g0 g9 g10 g11 @i64.eq_1 hHc2 hgj hgi2 hx h00 hjx h0j hjl q4 q5) ?_; intro Nx hNx Gx hGx
    refine tq (cj3 g11 @i64.eq_1 w4) ?_; intro Nx hNx Gx hGx
    refine ⟨hjl, hdf2, g0, g1, g2, g3, g10, rfl, hle2, S2, ⟨c2, o2, g9, hc02, hHc2⟩, hS2, hS2i, hbS3, fun m hm hmj he => ?_⟩
    by_cases hme : m = j
    · subst hme; exact absurd he (by rw [← hu]; exact hux)
    · exact hcl2 m hm (by omega) he
  have q5 : (u = x) = True := eq_true hux
  have hcall : CallOK Tryz.prog 117 [.os c2 o2 1 0 S2.length, .val (.int .i64 v)] s2.H fun d A => A = Heap.none ∧ d = .val (.bool (decide (v ∈ S2))) :=
    callOK_eq fun H'' hle'' => has_at (els_own (hle'' _ _ hHc2) (by rw [List.length_map])) (by omega)
  by_cases hvS : v ∈ S2
  · have q6 : decide (v ∈ S2) = true := decide_eq_true hvS
    rw [q6] at hcall
    refine W_drawE (fun _ _ d A => A = .none ∧ d = .val (.bool true)) (by kernel_rfl) (by kernel_rfl) (by kernel_rfl) fun Nx hNx => ?_; refine dst (cj15 g0 g9 g10 g11 @i64.eq_1 hHc2 hgj hgi2 hx h00 hjx h0j hjl q4 q5) ?_; intro Nx hNx Gx hGx
    refine ⟨hcall, hGx _ ?_⟩
    refine dst @i64.eq_1 ?_; intro Nx hNx Gx hGx
    refine tq (cj3 g11 @i64.eq_1 w4) ?_; intro Nx hNx Gx hGx
    refine ⟨hjl, hdf2, g0, g1, g2, g3, g10, rfl, hle2, S2, ⟨c2, o2, g9, hc02, hHc2⟩, hS2, hS2i, hbS3, fun m hm hmj he => ?_⟩
    by_cases hme : m = j
    · subst hme; rw [← hv]; exact hvS
    · exact hcl2 m hm (by omega) he
  · have q6 : decide (v ∈ S2) = false := decide_eq_false hvS
    rw [q6] at hcall
    refine W_drawE (fun _ _ d A => A = .none ∧ d = .val (.bool false)) (by kernel_rfl) (by kernel_rfl) (by kernel_rfl) fun Nx hNx => ?_; refine dst (cj15 g0 g9 g10 g11 @i64.eq_1 hHc2 hgj hgi2 hx h00 hjx h0j hjl q4 q5) ?_; intro Nx hNx Gx hGx
    refine ⟨hcall, hGx _ ?_⟩
    refine dst @i64.eq_1 ?_; intro Nx hNx Gx hGx
    refine tq (cj9 g0 g9 g10 g11 @i64.eq_1 hgj hjx h0j hjl) ?_; intro Nx hNx Gx hGx
    have hvR := (hin _ huv).2
    have hxR : Reach l a x := (hS2.inr x (List.mem_of_getElem? hS2i)).2
    have hnd : (S2 ++ [v]).Nodup := by
      rw [List.nodup_append]
      exact ⟨hS2.nd, by simp, fun z hz w hw => by rw [List.mem_singleton] at hw; subst hw; exact fun e => hvS (e ▸ hz)⟩
    have hinr : ∀ z ∈ S2 ++ [v], InR n z ∧ Reach l a z := fun z hz => by
      rcases List.mem_append.1 hz with hz | hz
      · exact hS2.inr z hz
      · rw [List.mem_singleton] at hz; subst hz; exact ⟨hvR, hxR.step (hux ▸ huv)⟩
    have hn3 := nodup_le hnd fun z hz => (hinr z hz).1
    have hgl : Gl H 3 1 (S2.map iD) (.os c2 o2 1 0 S2.length) s2.H (some c2) := .inr ⟨c2, o2, rfl, by rw [List.length_map], hc02, hHc2⟩
    refine apV_grow (e := 3) ty48 rfl ty48 rfl ty3 rfl (by decide) hle2 hgl (new := [iD v]) (by exact ⟨rfl, rfl⟩) (by rw [List.length_map]; show (_ + 1) * 8 ≤ _; omega) fun d H6 ob6 hg6 hle6 _ => ?_
    rw [show [iD v] = [v].map iD from rfl, ← List.map_append] at hg6
    have hg6' : ∃ c o, d = .os c o 1 0 (S2 ++ [v]).length ∧ H c = none ∧ H6 c = some (.row 3 o 1 ((S2 ++ [v]).map iD)) := by
      rcases hg6 with ⟨_, _, h⟩ | ⟨c, o, _, h1, h2, h3⟩
      · simp at h
      · exact ⟨c, o, by rw [h1, List.length_map], h2, h3⟩
    refine tq (cj3 g11 @i64.eq_1 w4) ?_; intro Nx hNx Gx hGx
    refine ⟨hjl, hdf2, g0, g1, g2, g3, g10, rfl, hle6, S2 ++ [v], hg6', ⟨hnd, hinr, List.mem_append.2 (.inl hS2.st), ?_, ?_⟩, ?_, ?_, ?_⟩
    · intro z hz; exact List.mem_of_mem_drop hz
    · intro z hz hzq hzx y hy
      rcases List.mem_append.1 hz with hz | hz
      · refine List.mem_append.2 (.inl (hS2.cl z hz (fun h => hzq ?_) hzx y hy))
        rw [List.drop_append_of_le_length (by omega)]
        exact List.mem_append.2 (.inl h)
      · exact absurd (by rw [List.drop_append_of_le_length (by omega)]; exact List.mem_append.2 (.inr hz)) hzq
    · rw [List.getElem?_append_left hi2]; exact hS2i
    · rw [List.take_append_of_le_length (by omega)]; exact hbS3
    · intro m hm hmj he
      by_cases hme : m = j
      · subst hme; rw [← hv]; exact List.mem_append.2 (.inr (by simp))
      · exact List.mem_append.2 (.inl (hcl2 m hm (by omega) he))
theorem relH_le {l : List (Int × Int)} {b1 b2 : Nat} {H H' : Heap} (h : RelH l b1 b2 H) (hle : H.le H') : RelH l b1 b2 H' := by
  obtain ⟨m1, m2, h1, h2, h3, h4⟩ := h
  exact ⟨m1, m2, hle _ _ h1, h2, hle _ _ h3, h4⟩
end Go.Proofs.YtgfhgeelfaalmaaGreatDoor
