/- Lemmas and contracts of functions, several texts in one: R7 R8. -/
import Derived.Test.YtdggkophnlldoaaGX
/- slices.Equal of numbers; what Closure computes, in plain Lean. -/
namespace Go.Proofs.Ytdggkophnlldoaa
open Go.RowKit
set_option linter.unusedVariables false
set_option maxRecDepth 100000
set_option linter.unusedSimpArgs false
def EqI (l m : List Int) (i : Nat) (s : St) : Prop := s.df = [] ∧ s.fr 0 = .seq 1 (l.map iD) ∧ s.fr 1 = .seq 1 (m.map iD) ∧ s.fr 12 = i64 l.length ∧ s.fr 13 = i64 i ∧ s.H = Heap.none ∧ l.take i = m.take i
theorem equalI_N (l m : List Int) (hl : l.length ≤ 140737488351232) : Does Try.prog 25 [.seq 1 (l.map iD), .seq 1 (m.map iD)] .none fun d _ => d = .val (.bool (decide (l = m))) := by
  have hll : (List.map iD l).length = l.length := List.length_map _
  have hml : (List.map iD m).length = m.length := List.length_map _
  refine does_of _ _ Try.func25 rfl rfl Try.ntmps25 Try.results25 (by simp only [List.length_cons, List.length_nil]; omega) fun w0 Q hret => ?_
  by_cases hlm : l.length = m.length
  case neg =>
    have q : ((l.length : Int) = (m.length : Int)) = False := eq_false (by omega)
    (have fs := And.intro @i64.eq_1 (And.intro hll (And.intro hml q)); (repeat (first | refine hGx _ ?_ | refine hNx _ ?_ | refine W_skip ?_ | refine W_exit ?_ | refine W_ret ?_ | refine W_label ?_ | refine W_scope ?_ | refine W_block ?_ | refine W_seq ?_ | ((first | refine tS fun N hNx => ?_ | refine WL_gE rfl rfl (by kernel_rfl) (by kernel_rfl) fun G hGx => ?_ | refine vcOpsS_sound (by kernel_rfl) ?_ | refine W_ifE fun A B hAx hBx => ?_); refine evT ?_; (first | refine hGx _ ?_ | refine hNx _ ?_ | refine hAx ?_ | refine hBx ?_ | skip)))); (try clear fs))
    (first | (show Q .ret _) | (show Q .normal _) | skip); refine hret _ _ (by first | exact .inr rfl | exact .inl rfl) (by first | rfl | assumption | (simp only [put_df, withH_df]; assumption)) ?_; have fs := @i64.eq_1; refine evT ?_; clear fs
    exact ⟨_, Heap.le_refl _, by rw [decide_eq_false fun e => hlm (by rw [e])]⟩
  have q : ((l.length : Int) = (m.length : Int)) = True := eq_true (by omega)
  have hmm : (m.length : Int) = (l.length : Int) := by omega
  (have fs := And.intro @i64.eq_1 (And.intro hll (And.intro hml q)); (repeat (first | refine hGx _ ?_ | refine hNx _ ?_ | refine W_skip ?_ | refine W_exit ?_ | refine W_ret ?_ | refine W_label ?_ | refine W_scope ?_ | refine W_block ?_ | refine W_seq ?_ | ((first | refine tS fun N hNx => ?_ | refine WL_gE rfl rfl (by kernel_rfl) (by kernel_rfl) fun G hGx => ?_ | refine vcOpsS_sound (by kernel_rfl) ?_ | refine W_ifE fun A B hAx hBx => ?_); refine evT ?_; (first | refine hGx _ ?_ | refine hNx _ ?_ | refine hAx ?_ | refine hBx ?_ | skip)))); (try clear fs))
  refine W_loopN l.length (EqI l m) ⟨rfl, rfl, rfl, rfl, rfl, rfl, by simp⟩ ?_
  rintro i s hi ⟨hdf, f0, f1, f12, f13, hH, htk⟩
  have hx : (i : Int).toNat = i := Int.toNat_natCast _
  have h00 : (0 : Int) ≤ (i : Int) := Int.natCast_nonneg _
  by_cases hil : i < l.length
  case neg =>
    have q1 : ((i : Int) < (l.length : Int)) = False := eq_false (by omega)
    rw [List.take_of_length_le (by omega), List.take_of_length_le (by omega)] at htk
    (have fs := And.intro f12 (And.intro f13 (And.intro @i64.eq_1 q1)); (repeat (first | refine hGx _ ?_ | refine hNx _ ?_ | refine W_skip ?_ | refine W_exit ?_ | refine W_ret ?_ | refine W_label ?_ | refine W_scope ?_ | refine W_block ?_ | refine W_seq ?_ | ((first | refine tS fun N hNx => ?_ | refine WL_gE rfl rfl (by kernel_rfl) (by kernel_rfl) fun G hGx => ?_ | refine vcOpsS_sound (by kernel_rfl) ?_ | refine W_ifE fun A B hAx hBx => ?_); refine evT ?_; (first | refine hGx _ ?_ | refine hNx _ ?_ | refine hAx ?_ | refine hBx ?_ | skip)))); (try clear fs))
    (first | (show Q .ret _) | (show Q .normal _) | skip); refine hret _ _ (by first | exact .inr rfl | exact .inl rfl) (by first | rfl | assumption | (simp only [put_df, withH_df]; assumption)) ?_; have fs := hdf; refine evT ?_; clear fs
    exact ⟨_, Heap.le_refl _, by rw [decide_eq_true htk]⟩
  have q1 : ((i : Int) < (l.length : Int)) = True := eq_true (by omega)
  have him : i < m.length := by omega
  have hgi := get_ints hil
  have hgm := get_ints him
  have w3 : IntKind.i64.wrap ((i : Int) + 1) = ((i + 1 : Nat) : Int) := by rw [wrap_i64_of (by omega)]; omega
  by_cases h2 : l[i] = m[i]
  · have q2 : (l[i] = m[i]) = True := eq_true h2
    (have fs := And.intro f12 (And.intro f13 (And.intro @i64.eq_1 q1)); (repeat (first | refine hGx _ ?_ | refine hNx _ ?_ | refine W_skip ?_ | refine W_exit ?_ | refine W_ret ?_ | refine W_label ?_ | refine W_scope ?_ | refine W_block ?_ | refine W_seq ?_ | ((first | refine tS fun N hNx => ?_ | refine WL_gE rfl rfl (by kernel_rfl) (by kernel_rfl) fun G hGx => ?_ | refine vcOpsS_sound (by kernel_rfl) ?_ | refine W_ifE fun A B hAx hBx => ?_); refine evT ?_; (first | refine hGx _ ?_ | refine hNx _ ?_ | refine hAx ?_ | refine hBx ?_ | skip)))); (try clear fs))
    refine W_drawE (fun _ _ _ _ => False) (by kernel_rfl) (by kernel_rfl) (by kernel_rfl) fun N hNx => ?_; (have fs := And.intro f0 (And.intro f1 (And.intro @i64.eq_1 (And.intro hll (And.intro hml (And.intro hgi (And.intro hgm (And.intro hx (And.intro h00 (And.intro hil (And.intro him q2)))))))))); (repeat ((first | refine vcD_g rfl rfl fun G hGx => ?_ | refine vcDS_to ?_); refine evD ?_; (first | refine hGx _ ?_ | refine hNx _ ?_ | skip))); (try clear fs))
    (have fs := And.intro f13 (And.intro @i64.eq_1 (And.intro w3 q2)); (repeat (first | refine hGx _ ?_ | refine hNx _ ?_ | refine W_skip ?_ | refine W_exit ?_ | refine W_ret ?_ | refine W_label ?_ | refine W_scope ?_ | refine W_block ?_ | refine W_seq ?_ | ((first | refine tS fun N hNx => ?_ | refine WL_gE rfl rfl (by kernel_rfl) (by kernel_rfl) fun G hGx => ?_ | refine vcOpsS_sound (by kernel_rfl) ?_ | refine W_ifE fun A B hAx hBx => ?_); refine evT ?_; (first | refine hGx _ ?_ | refine hNx _ ?_ | refine hAx ?_ | refine hBx ?_ | skip)))); (try clear fs))
    refine ⟨hil, hdf, f0, f1, f12, rfl, hH, ?_⟩
    rw [List.take_succ_eq_append_getElem hil, List.take_succ_eq_append_getElem him, htk, h2]
  · have q2 : (l[i] = m[i]) = False := eq_false h2
    (have fs := And.intro f12 (And.intro f13 (And.intro @i64.eq_1 q1)); (repeat (first | refine hGx _ ?_ | refine hNx _ ?_ | refine W_skip ?_ | refine W_exit ?_ | refine W_ret ?_ | refine W_label ?_ | refine W_scope ?_ | refine W_block ?_ | refine W_seq ?_ | ((first | refine tS fun N hNx => ?_ | refine WL_gE rfl rfl (by kernel_rfl) (by kernel_rfl) fun G hGx => ?_ | refine vcOpsS_sound (by kernel_rfl) ?_ | refine W_ifE fun A B hAx hBx => ?_); refine evT ?_; (first | refine hGx _ ?_ | refine hNx _ ?_ | refine hAx ?_ | refine hBx ?_ | skip)))); (try clear fs))
    refine W_drawE (fun _ _ _ _ => False) (by kernel_rfl) (by kernel_rfl) (by kernel_rfl) fun N hNx => ?_; (have fs := And.intro f0 (And.intro f1 (And.intro @i64.eq_1 (And.intro hll (And.intro hml (And.intro hgi (And.intro hgm (And.intro hx (And.intro h00 (And.intro hil (And.intro him q2)))))))))); (repeat ((first | refine vcD_g rfl rfl fun G hGx => ?_ | refine vcDS_to ?_); refine evD ?_; (first | refine hGx _ ?_ | refine hNx _ ?_ | skip))); (try clear fs))
    (have fs := And.intro f13 (And.intro @i64.eq_1 (And.intro w3 q2)); (repeat (first | refine hGx _ ?_ | refine hNx _ ?_ | refine W_skip ?_ | refine W_exit ?_ | refine W_ret ?_ | refine W_label ?_ | refine W_scope ?_ | refine W_block ?_ | refine W_seq ?_ | ((first | refine tS fun N hNx => ?_ | refine WL_gE rfl rfl (by kernel_rfl) (by kernel_rfl) fun G hGx => ?_ | refine vcOpsS_sound (by kernel_rfl) ?_ | refine W_ifE fun A B hAx hBx => ?_); refine evT ?_; (first | refine hGx _ ?_ | refine hNx _ ?_ | refine hAx ?_ | refine hBx ?_ | skip)))); (try clear fs))
    (first | (show Q .ret _) | (show Q .normal _) | skip); refine hret _ _ (by first | exact .inr rfl | exact .inl rfl) (by first | rfl | assumption | (simp only [put_df, withH_df]; assumption)) ?_; have fs := hdf; refine evT ?_; clear fs
    exact ⟨_, Heap.le_refl _, by rw [decide_eq_false]; rintro rfl; exact h2 rfl⟩
theorem equalI_at (H : Heap) (l m : List Int) (hl : l.length ≤ 140737488351232) : Does Try.prog 25 [.seq 1 (l.map iD), .seq 1 (m.map iD)] H fun d H' => d = .val (.bool (decide (l = m))) ∧ H = H' :=
  pure_D (equalI_N l m hl) rfl (vws2 (vw_refl _ _) (vw_refl _ _))
theorem strict_eq : ∀ {l m : List Int}, l.Pairwise (· < ·) → m.Pairwise (· < ·) → (∀ x, x ∈ l ↔ x ∈ m) → l = m
  | [], [], _, _, _ => rfl
  | [], b :: m, _, _, h => by have := (h b).2 (by simp); simp at this
  | a :: l, [], _, _, h => by have := (h a).1 (by simp); simp at this
  | a :: l, b :: m, h1, h2, h => by
    rw [List.pairwise_cons] at h1 h2
    have hab : a = b := by
      have ha := (h a).1 (by simp)
      have hb := (h b).2 (by simp)
      rcases List.mem_cons.1 ha with e | ha
      · exact e
      rcases List.mem_cons.1 hb with e | hb
      · exact e.symm
      have := h1.1 b hb
      have := h2.1 a ha
      omega
    subst hab
    rw [strict_eq h1.2 h2.2 fun x => ?_]
    constructor
    · intro hx
      have := h1.1 x hx
      rcases List.mem_cons.1 ((h x).1 (List.mem_cons_of_mem _ hx)) with e | h
      · omega
      · exact h
    · intro hx
      have := h2.1 x hx
      rcases List.mem_cons.1 ((h x).2 (List.mem_cons_of_mem _ hx)) with e | h
      · omega
      · exact h
theorem sortI_mem {l : List Int} {x : Int} : x ∈ sortI l ↔ x ∈ l := List.mem_mergeSort
theorem sortI_strict {l : List Int} (h : l.Nodup) : (sortI l).Pairwise (· < ·) := by
  have h1 : (sortI l).Pairwise fun a b => decide (a ≤ b) = true := List.pairwise_mergeSort (fun a b c h1 h2 => by simp at *; omega) (fun a b => by simp; omega) l
  have h2 : (sortI l).Nodup := (List.mergeSort_perm l _).nodup_iff.2 h
  rw [List.nodup_iff_pairwise_ne] at h2
  exact (h1.and h2).imp fun {a b} h => by have := h.1; have := h.2; simp at *; omega
theorem closT_strict (l : List (Int × Int)) (n : Int) (o : List Int) (i : Nat) : (closT l n o i).Pairwise (· < ·) := by
  unfold closT
  refine List.Pairwise.filter _ ?_
  rw [List.pairwise_map]
  exact List.pairwise_lt_range.imp fun h => by omega
theorem closT_mem {l : List (Int × Int)} {n : Int} {o : List Int} {x : Int} : x ∈ closT l n o n.toNat ↔ InR n x ∧ ∃ q ∈ o, InR n q ∧ Reach l x q := by
  unfold closT
  rw [List.mem_filter, List.mem_map, List.any_eq_true]
  constructor
  · rintro ⟨⟨k, hk, rfl⟩, q, hq, ho⟩
    rw [List.mem_range] at hk
    have : InR n k ∧ InR n q ∧ Reach l k q := Classical.byContradiction fun h => by rw [outlB_f h] at ho; cases ho
    exact ⟨this.1, q, hq, this.2⟩
  · rintro ⟨h1, q, hq, h2⟩
    refine ⟨⟨x.toNat, ?_, ?_⟩, q, hq, outlB_t ⟨h1, h2⟩⟩
    · rw [List.mem_range]; unfold InR at h1; omega
    · unfold InR at h1; omega
theorem reach_back {l : List (Int × Int)} {S : List Int} {a b : Int} (hc : ∀ y ∈ S, ∀ x, (x, y) ∈ l → x ∈ S) (h : Reach l a b) : b ∈ S → a ∈ S := by
  induction h with
  | refl => exact id
  | step _ h2 ih => exact fun hb => ih (hc _ hb _ h2)
/-- What the search ends with, in order. -/
theorem clos_fin {l : List (Int × Int)} {n : Int} {o S : List Int} (hnd : S.Nodup) (hin : ∀ x ∈ S, InR n x ∧ ∃ q ∈ o, InR n q ∧ Reach l x q) (hst : ∀ q ∈ o, InR n q → q ∈ S) (hc : ∀ y ∈ S, ∀ x, (x, y) ∈ l → x ∈ S) : sortI S = closT l n o n.toNat := by
  refine strict_eq (sortI_strict hnd) (closT_strict _ _ _ _) fun x => ?_
  rw [sortI_mem, closT_mem]
  constructor
  · exact hin x
  · rintro ⟨_, q, hq, h1, h2⟩
    exact reach_back hc h2 (hst q hq h1)
end Go.Proofs.Ytdggkophnlldoaa
/- package regions: Closure. -/
namespace Go.Proofs.Ytdggkophnlldoaa
open Go.RowKit
set_option linter.unusedVariables false
set_option maxRecDepth 100000
set_option linter.unusedSimpArgs false
theorem trueB_snoc (x : Int) (S : List Int) : ∀ y, (if y = x then some (D.val (.bool true)) else trueB S y) = trueB (S ++ [x]) y := fun y => by
  rw [trueB_cons x S y]
  unfold trueB
  have : (y ∈ x :: S) = (y ∈ S ++ [x]) := by simp [or_comm]
  simp only [this]
structure CS (l : List (Int × Int)) (n : Int) (o S : List Int) (i : Nat) : Prop where
  nd : S.Nodup
  inr : ∀ x ∈ S, InR n x ∧ ∃ q ∈ o, InR n q ∧ Reach l x q
  st : ∀ q ∈ o, InR n q → q ∈ S
  cl : ∀ y ∈ S.take i, ∀ x, (x, y) ∈ l → x ∈ S
def OwnL (H : Heap) (bm : Nat) (S : List Int) (d : D) (H' : Heap) : Prop := ∃ c o, d = .os c o 1 0 S.length ∧ H c = none ∧ H' c = some (.row 3 o 1 (S.map iD)) ∧ c ≠ bm
def C1 (o : List Int) (n : Int) (b1 b2 bm : Nat) (H : Heap) (i : Nat) (s : St) : Prop :=
  s.df = [] ∧ s.fr 0 = relD n b1 b2 ∧ s.fr 5 = .val (.map (some bm)) ∧ s.fr 13 = .seq 1 (o.map iD) ∧ s.fr 14 = i64 o.length ∧ s.fr 15 = i64 i ∧ H.le s.H ∧ ∃ M S ob, s.H bm = some (.map M) ∧ IntM M (trueB S) ∧ Gl H 3 1 (S.map iD) (s.fr 6) s.H ob ∧ ob ≠ some bm ∧ S.Nodup ∧ (∀ x ∈ S, InR n x ∧ x ∈ o) ∧ ∀ k (h : k < o.length), k < i → InR n o[k] → o[k] ∈ S
def C2 (l : List (Int × Int)) (o : List Int) (n : Int) (b1 b2 bm : Nat) (H : Heap) (i : Nat) (S : List Int) (s : St) : Prop :=
  s.df = [] ∧ s.fr 0 = relD n b1 b2 ∧ s.fr 5 = .val (.map (some bm)) ∧ s.fr 9 = i64 i ∧ H.le s.H ∧ ∃ M ob, s.H bm = some (.map M) ∧ IntM M (trueB S) ∧ Gl H 3 1 (S.map iD) (s.fr 6) s.H ob ∧ ob ≠ some bm ∧ CS l n o S i ∧ i ≤ S.length
set_option maxHeartbeats 1000000 in
theorem clos_N (l : List (Int × Int)) (n : Int) (o : List Int) (b1 b2 : Nat) (H : Heap) (hR : RelH l b1 b2 H) (hin : ∀ p ∈ l, InR n p.1 ∧ InR n p.2) (hn : n ≤ 1000000) (hl : l.length ≤ 1000000) (ho : o.length ≤ 140737488351232) :
    Does Try.prog 40 [relD n b1 b2, .seq 1 (o.map iD)] H fun d H' => d = .seq 1 ((closT l n o n.toNat).map iD) ∧ H = H' := by
  refine Does.frz (K := fun d => d = .seq 1 ((closT l n o n.toNat).map iD)) ?_
  obtain ⟨m1, m2, hm1, hi1, hm2, hi2⟩ := hR
  have hol : (List.map iD o).length = o.length := List.length_map _
  refine does_of _ _ Try.func40 rfl rfl Try.ntmps40 Try.results40 (by simp only [List.length_cons, List.length_nil]; omega) fun w0 Q hret => ?_
  (have fs := @i64.eq_1; (repeat (first | refine hGx _ ?_ | refine hNx _ ?_ | refine W_skip ?_ | refine W_exit ?_ | refine W_ret ?_ | refine W_label ?_ | refine W_scope ?_ | refine W_block ?_ | refine W_seq ?_ | ((first | refine tT fun N hNx => ?_ | refine WL_gO rfl rfl (by kernel_rfl) (by kernel_rfl) fun G hGx => ?_ | refine vcOpsT_sound (by kernel_rfl) ?_ | refine W_ifE fun A B hAx hBx => ?_); refine evT ?_; (first | refine hGx _ ?_ | refine hNx _ ?_ | refine hAx ?_ | refine hBx ?_ | skip)))); (try clear fs))
  intro bm hbm
  (have fs := And.intro @i64.eq_1 hol; (repeat (first | refine hGx _ ?_ | refine hNx _ ?_ | refine W_skip ?_ | refine W_exit ?_ | refine W_ret ?_ | refine W_label ?_ | refine W_scope ?_ | refine W_block ?_ | refine W_seq ?_ | ((first | refine tS fun N hNx => ?_ | refine WL_gE rfl rfl (by kernel_rfl) (by kernel_rfl) fun G hGx => ?_ | refine vcOpsS_sound (by kernel_rfl) ?_ | refine W_ifE fun A B hAx hBx => ?_); refine evT ?_; (first | refine hGx _ ?_ | refine hNx _ ?_ | refine hAx ?_ | refine hBx ?_ | skip)))); (try clear fs))
  refine W_loopN o.length (C1 o n b1 b2 bm H) ⟨rfl, rfl, rfl, rfl, rfl, rfl, Heap.le_put (Heap.le_refl _) hbm, [], [], none, Heap.upd_same _ _ _, IntM.nil.congr trueB_nil, Gl.nil _ _ _ _, by simp, by simp, by simp, by simp⟩ ?_
  rintro i s hi ⟨hdf, f0, f5, f13, f14, f15, hle, M, S, ob, hHm, hM, hg, hne, hnd, hS, hcov⟩
  have hx : (i : Int).toNat = i := Int.toNat_natCast _
  have h00 : (0 : Int) ≤ (i : Int) := Int.natCast_nonneg _
  by_cases hil : i < o.length
  case pos =>
    have q1 : ((i : Int) < (o.length : Int)) = True := eq_true (by omega)
    have hgi := get_ints hil
    have w3 : IntKind.i64.wrap ((i : Int) + 1) = ((i + 1 : Nat) : Int) := by rw [wrap_i64_of (by omega)]; omega
    obtain ⟨x, hxe⟩ : ∃ x, x = o[i] := ⟨_, rfl⟩
    rw [← hxe] at hgi
    have hxo : x ∈ o := hxe ▸ List.getElem_mem hil
    (have fs := And.intro f0 (And.intro f13 (And.intro f14 (And.intro f15 (And.intro @i64.eq_1 (And.intro q1 (And.intro hgi (And.intro hx (And.intro h00 (And.intro hil hol))))))))); (repeat (first | refine hGx _ ?_ | refine hNx _ ?_ | refine W_skip ?_ | refine W_exit ?_ | refine W_ret ?_ | refine W_label ?_ | refine W_scope ?_ | refine W_block ?_ | refine W_seq ?_ | ((first | refine tS fun N hNx => ?_ | refine WL_gE rfl rfl (by kernel_rfl) (by kernel_rfl) fun G hGx => ?_ | refine vcOpsS_sound (by kernel_rfl) ?_ | refine W_ifE fun A B hAx hBx => ?_); refine evT ?_; (first | refine hGx _ ?_ | refine hNx _ ?_ | refine hAx ?_ | refine hBx ?_ | skip)))); (try clear fs))
    refine (has_N n x b1 b2 _).mono ?_
    rintro d _ ⟨rfl, rfl⟩
    by_cases hxR : InR n x
    case neg =>
      rw [decide_eq_false hxR]
      (have fs := And.intro f15 (And.intro @i64.eq_1 w3); (repeat (first | refine hGx _ ?_ | refine hNx _ ?_ | refine W_skip ?_ | refine W_exit ?_ | refine W_ret ?_ | refine W_label ?_ | refine W_scope ?_ | refine W_block ?_ | refine W_seq ?_ | ((first | refine tS fun N hNx => ?_ | refine WL_gE rfl rfl (by kernel_rfl) (by kernel_rfl) fun G hGx => ?_ | refine vcOpsS_sound (by kernel_rfl) ?_ | refine W_ifE fun A B hAx hBx => ?_); refine evT ?_; (first | refine hGx _ ?_ | refine hNx _ ?_ | refine hAx ?_ | refine hBx ?_ | skip)))); (try clear fs))
      refine ⟨hil, hdf, f0, f5, f13, f14, rfl, hle, M, S, ob, hHm, hM, hg, hne, hnd, hS, fun k hk hki hkR => ?_⟩
      by_cases hke : k = i
      · subst hke; rw [← hxe] at hkR; exact absurd hkR hxR
      · exact hcov k hk (by omega) hkR
    rw [decide_eq_true hxR]
    have hx64 : -9223372036854775808 ≤ x ∧ x ≤ 9223372036854775807 := by unfold InR at hxR; omega
    have hkx := hM.ok (P := Try.prog) Try.underlying3 hx64
    have hlk := hM.get x
    by_cases hxS : x ∈ S
    · have hl2 : trueB S x = some (.val (.bool true)) := if_pos hxS
      rw [hl2] at hlk
      (have fs := And.intro f5 (And.intro f15 (And.intro @i64.eq_1 (And.intro w3 (And.intro hHm hlk)))); (repeat (first | refine hGx _ ?_ | refine hNx _ ?_ | refine W_skip ?_ | refine W_exit ?_ | refine W_ret ?_ | refine W_label ?_ | refine W_scope ?_ | refine W_block ?_ | refine W_seq ?_ | ((first | refine tS fun N hNx => ?_ | refine WL_gE rfl rfl (by kernel_rfl) (by kernel_rfl) fun G hGx => ?_ | refine vcOpsS_sound (by kernel_rfl) ?_ | refine W_ifE fun A B hAx hBx => ?_); refine evT ?_; (first | refine hGx _ ?_ | refine hNx _ ?_ | refine hAx ?_ | refine hBx ?_ | skip)))); (try clear fs))
      refine ⟨hkx, ?_⟩
      (have fs := And.intro f5 (And.intro f15 (And.intro @i64.eq_1 w3)); (repeat (first | refine hGx _ ?_ | refine hNx _ ?_ | refine W_skip ?_ | refine W_exit ?_ | refine W_ret ?_ | refine W_label ?_ | refine W_scope ?_ | refine W_block ?_ | refine W_seq ?_ | ((first | refine tS fun N hNx => ?_ | refine WL_gE rfl rfl (by kernel_rfl) (by kernel_rfl) fun G hGx => ?_ | refine vcOpsS_sound (by kernel_rfl) ?_ | refine W_ifE fun A B hAx hBx => ?_); refine evT ?_; (first | refine hGx _ ?_ | refine hNx _ ?_ | refine hAx ?_ | refine hBx ?_ | skip)))); (try clear fs))
      refine ⟨hil, hdf, f0, f5, f13, f14, rfl, hle, M, S, ob, hHm, hM, hg, hne, hnd, hS, fun k hk hki hkR => ?_⟩
      by_cases hke : k = i
      · subst hke; rw [← hxe]; exact hxS
      · exact hcov k hk (by omega) hkR
    · have hl2 : trueB S x = none := if_neg hxS
      rw [hl2] at hlk
      (have fs := And.intro f5 (And.intro f15 (And.intro @i64.eq_1 (And.intro w3 (And.intro hHm hlk)))); (repeat (first | refine hGx _ ?_ | refine hNx _ ?_ | refine W_skip ?_ | refine W_exit ?_ | refine W_ret ?_ | refine W_label ?_ | refine W_scope ?_ | refine W_block ?_ | refine W_seq ?_ | ((first | refine tS fun N hNx => ?_ | refine WL_gE rfl rfl (by kernel_rfl) (by kernel_rfl) fun G hGx => ?_ | refine vcOpsS_sound (by kernel_rfl) ?_ | refine W_ifE fun A B hAx hBx => ?_); refine evT ?_; (first | refine hGx _ ?_ | refine hNx _ ?_ | refine hAx ?_ | refine hBx ?_ | skip)))); (try clear fs))
      refine ⟨hkx, ?_⟩
      (have fs := And.intro f5 (And.intro f15 (And.intro @i64.eq_1 (And.intro w3 hHm))); (repeat (first | refine hGx _ ?_ | refine hNx _ ?_ | refine W_skip ?_ | refine W_exit ?_ | refine W_ret ?_ | refine W_label ?_ | refine W_scope ?_ | refine W_block ?_ | refine W_seq ?_ | ((first | refine tS fun N hNx => ?_ | refine WL_gE rfl rfl (by kernel_rfl) (by kernel_rfl) fun G hGx => ?_ | refine vcOpsS_sound (by kernel_rfl) ?_ | refine W_ifE fun A B hAx hBx => ?_); refine evT ?_; (first | refine hGx _ ?_ | refine hNx _ ?_ | refine hAx ?_ | refine hBx ?_ | skip)))); (try clear fs))
      refine ⟨hkx, ?_⟩
      have hM4 : IntM (mset M (.int .i64 x) (.val (.bool true))) (trueB (S ++ [x])) := (hM.set hx64 (.val (.bool true))).congr (trueB_snoc x S)
      obtain ⟨M4, hM4e⟩ : ∃ M4, M4 = mset M (.int .i64 x) (.val (.bool true)) := ⟨_, rfl⟩
      rw [← hM4e] at hM4 ⊢
      have hm4 : (s.H.upd bm (.map M4)) bm = some (.map M4) := Heap.upd_same _ _ _
      have hle4 : H.le (s.H.upd bm (.map M4)) := Heap.le_put hle hbm
      have hg4 : Gl H 3 1 (S.map iD) (s.fr 6) (s.H.upd bm (.map M4)) ob := hg.keep fun c' hc' => Heap.upd_ne fun e => hne (by rw [hc', e])
      (have fs := And.intro f5 (And.intro f15 (And.intro @i64.eq_1 w3)); (repeat (first | refine hGx _ ?_ | refine hNx _ ?_ | refine W_skip ?_ | refine W_exit ?_ | refine W_ret ?_ | refine W_label ?_ | refine W_scope ?_ | refine W_block ?_ | refine W_seq ?_ | ((first | refine tS fun N hNx => ?_ | refine WL_gE rfl rfl (by kernel_rfl) (by kernel_rfl) fun G hGx => ?_ | refine vcOpsS_sound (by kernel_rfl) ?_ | refine W_ifE fun A B hAx hBx => ?_); refine evT ?_; (first | refine hGx _ ?_ | refine hNx _ ?_ | refine hAx ?_ | refine hBx ?_ | skip)))); (try clear fs))
      have hSn := nodup_le hnd fun z hz => (hS z hz).1
      refine apV_grow (e := 3) ty43 rfl ty43 rfl ty3 rfl (by decide) hle4 hg4 (new := [iD x]) (by exact ⟨rfl, rfl⟩) (by rw [List.length_map]; show (_ + 1) * 8 ≤ _; omega) fun d H6 ob6 hg6 hle6 hp6 => ?_
      have hm6 := hp6 _ _ hm4 hne
      rw [show [iD x] = [x].map iD from rfl, ← List.map_append] at hg6
      (have fs := And.intro f15 (And.intro @i64.eq_1 w3); (repeat (first | refine hGx _ ?_ | refine hNx _ ?_ | refine W_skip ?_ | refine W_exit ?_ | refine W_ret ?_ | refine W_label ?_ | refine W_scope ?_ | refine W_block ?_ | refine W_seq ?_ | ((first | refine tS fun N hNx => ?_ | refine WL_gE rfl rfl (by kernel_rfl) (by kernel_rfl) fun G hGx => ?_ | refine vcOpsS_sound (by kernel_rfl) ?_ | refine W_ifE fun A B hAx hBx => ?_); refine evT ?_; (first | refine hGx _ ?_ | refine hNx _ ?_ | refine hAx ?_ | refine hBx ?_ | skip)))); (try clear fs))
      refine ⟨hil, hdf, f0, f5, f13, f14, rfl, hle6, M4, S ++ [x], ob6, hm6.1, hM4, hg6, hm6.2, ?_, ?_, fun k hk hki hkR => ?_⟩
      · rw [List.nodup_append]
        exact ⟨hnd, by simp, fun z hz w hw => by rw [List.mem_singleton] at hw; subst hw; exact fun e => hxS (e ▸ hz)⟩
      · intro z hz
        rcases List.mem_append.1 hz with hz | hz
        · exact hS z hz
        · rw [List.mem_singleton] at hz; subst hz; exact ⟨hxR, hxo⟩
      · by_cases hke : k = i
        · subst hke; rw [← hxe]; simp
        · exact List.mem_append.2 (.inl (hcov k hk (by omega) hkR))
  case neg =>
    have q1 : ((i : Int) < (o.length : Int)) = False := eq_false (by omega)
    (have fs := And.intro f14 (And.intro f15 (And.intro @i64.eq_1 q1)); (repeat (first | refine hGx _ ?_ | refine hNx _ ?_ | refine W_skip ?_ | refine W_exit ?_ | refine W_ret ?_ | refine W_label ?_ | refine W_scope ?_ | refine W_block ?_ | refine W_seq ?_ | ((first | refine tS fun N hNx => ?_ | refine WL_gE rfl rfl (by kernel_rfl) (by kernel_rfl) fun G hGx => ?_ | refine vcOpsS_sound (by kernel_rfl) ?_ | refine W_ifE fun A B hAx hBx => ?_); refine evT ?_; (first | refine hGx _ ?_ | refine hNx _ ?_ | refine hAx ?_ | refine hBx ?_ | skip)))); (try clear fs))
    have hS0 : CS l n o S 0 := ⟨hnd, fun x hx => ⟨(hS x hx).1, x, (hS x hx).2, (hS x hx).1, .refl x⟩, fun q hq hqR => by
      obtain ⟨k, hk, rfl⟩ := List.getElem_of_mem hq
      exact hcov k hk (by omega) hqR, by simp⟩
    refine W_loopM (fun k s => ∃ i S, C2 l o n b1 b2 bm H i S s ∧ k = n.toNat - i) (n.toNat - 0) ⟨0, S, ⟨hdf, f0, f5, rfl, hle, M, ob, hHm, hM, hg, hne, hS0, by omega⟩, rfl⟩ ?_
    rintro k s1 ⟨i1, S1, ⟨kdf, k0, k5, k9, kle, M1, ob1, kHm, kM, kg, kne, kS, kiS⟩, hk⟩
    have hSn := nodup_le kS.nd fun z hz => (kS.inr z hz).1
    have hx1 : (i1 : Int).toNat = i1 := Int.toNat_natCast _
    have h01 : (0 : Int) ≤ (i1 : Int) := Int.natCast_nonneg _
    rcases kg with ⟨_, f6, hSe⟩ | ⟨c, oo, hobe, f6, hc0, hHc⟩
    · have hS1 : S1 = [] := by cases S1 with
        | nil => rfl
        | cons a t => cases hSe
      subst hS1
      have hi10 : i1 = 0 := by simpa using kiS
      subst hi10
      (have fs := And.intro k9 (And.intro f6 @i64.eq_1); (repeat (first | refine hGx _ ?_ | refine hNx _ ?_ | refine W_skip ?_ | refine W_exit ?_ | refine W_ret ?_ | refine W_label ?_ | refine W_scope ?_ | refine W_block ?_ | refine W_seq ?_ | ((first | refine tS fun N hNx => ?_ | refine WL_gE rfl rfl (by kernel_rfl) (by kernel_rfl) fun G hGx => ?_ | refine vcOpsS_sound (by kernel_rfl) ?_ | refine W_ifE fun A B hAx hBx => ?_); refine evT ?_; (first | refine hGx _ ?_ | refine hNx _ ?_ | refine hAx ?_ | refine hBx ?_ | skip)))); (try clear fs))
      refine (sort_nil _).mono ?_
      rintro d _ ⟨rfl, rfl⟩
      (have fs := And.intro f6 @i64.eq_1; (repeat (first | refine hGx _ ?_ | refine hNx _ ?_ | refine W_skip ?_ | refine W_exit ?_ | refine W_ret ?_ | refine W_label ?_ | refine W_scope ?_ | refine W_block ?_ | refine W_seq ?_ | ((first | refine tS fun N hNx => ?_ | refine WL_gE rfl rfl (by kernel_rfl) (by kernel_rfl) fun G hGx => ?_ | refine vcOpsS_sound (by kernel_rfl) ?_ | refine W_ifE fun A B hAx hBx => ?_); refine evT ?_; (first | refine hGx _ ?_ | refine hNx _ ?_ | refine hAx ?_ | refine hBx ?_ | skip)))); (try clear fs))
      (first | (show Q .ret _) | (show Q .normal _) | skip); refine hret _ _ (by first | exact .inr rfl | exact .inl rfl) (by first | rfl | assumption | (simp only [put_df, withH_df]; assumption)) ?_; have fs := kdf; refine evT ?_; clear fs
      have hfin := clos_fin kS.nd kS.inr kS.st (by simp)
      have hs0 : sortI [] = [] := List.eq_nil_of_length_eq_zero (sortI_length [])
      exact ⟨_, Heap.le_refl _, kle, _, frz_nil, by rw [← hfin, hs0]; rfl⟩
    · rw [List.length_map] at f6
      have hcbm : c ≠ bm := fun e => kne (by rw [hobe, e])
      by_cases hil1 : i1 < S1.length
      case neg =>
        have q1 : ((i1 : Int) < (S1.length : Int)) = False := eq_false (by omega)
        (have fs := And.intro k9 (And.intro f6 (And.intro @i64.eq_1 q1)); (repeat (first | refine hGx _ ?_ | refine hNx _ ?_ | refine W_skip ?_ | refine W_exit ?_ | refine W_ret ?_ | refine W_label ?_ | refine W_scope ?_ | refine W_block ?_ | refine W_seq ?_ | ((first | refine tS fun N hNx => ?_ | refine WL_gE rfl rfl (by kernel_rfl) (by kernel_rfl) fun G hGx => ?_ | refine vcOpsS_sound (by kernel_rfl) ?_ | refine W_ifE fun A B hAx hBx => ?_); refine evT ?_; (first | refine hGx _ ?_ | refine hNx _ ?_ | refine hAx ?_ | refine hBx ?_ | skip)))); (try clear fs))
        refine (sort_own hHc (by omega)).mono ?_
        rintro d _ ⟨rfl, rfl⟩
        have hfin := clos_fin kS.nd kS.inr kS.st (by
          have := kS.cl
          rwa [List.take_of_length_le (by omega)] at this)
        have kle2 : H.le (s1.H.upd c (.row 3 oo 1 ((sortI S1).map iD))) := Heap.le_put kle hc0
        have hgl : Gl H 3 1 ((sortI S1).map iD) (.os c oo 1 0 S1.length) (s1.H.upd c (.row 3 oo 1 ((sortI S1).map iD))) (some c) := .inr ⟨c, oo, rfl, by rw [List.length_map, sortI_length], hc0, Heap.upd_same _ _ _⟩
        (have fs := And.intro f6 @i64.eq_1; (repeat (first | refine hGx _ ?_ | refine hNx _ ?_ | refine W_skip ?_ | refine W_exit ?_ | refine W_ret ?_ | refine W_label ?_ | refine W_scope ?_ | refine W_block ?_ | refine W_seq ?_ | ((first | refine tS fun N hNx => ?_ | refine WL_gE rfl rfl (by kernel_rfl) (by kernel_rfl) fun G hGx => ?_ | refine vcOpsS_sound (by kernel_rfl) ?_ | refine W_ifE fun A B hAx hBx => ?_); refine evT ?_; (first | refine hGx _ ?_ | refine hNx _ ?_ | refine hAx ?_ | refine hBx ?_ | skip)))); (try clear fs))
        (first | (show Q .ret _) | (show Q .normal _) | skip); refine hret _ _ (by first | exact .inr rfl | exact .inl rfl) (by first | rfl | assumption | (simp only [put_df, withH_df]; assumption)) ?_; have fs := kdf; refine evT ?_; clear fs
        exact ⟨_, Heap.le_refl _, kle2, _, frz_gl kle2 hgl, by rw [hfin]⟩
      have q1 : ((i1 : Int) < (S1.length : Int)) = True := eq_true (by omega)
      have hgi := get_ints hil1
      obtain ⟨x, hxe⟩ : ∃ x, x = S1[i1] := ⟨_, rfl⟩
      rw [← hxe] at hgi
      have hxS := kS.inr x (hxe ▸ List.getElem_mem hil1)
      have hx64 : -9223372036854775808 ≤ x ∧ x ≤ 9223372036854775807 := by have := hxS.1; unfold InR at this; omega
      have hm2' : s1.H b2 = some (.map m2) := kle _ _ hm2
      have hkx := hi2.ok (P := Try.prog) Try.underlying3 hx64
      have hgm := hi2.get x
      (have fs := And.intro k0 (And.intro k5 (And.intro k9 (And.intro f6 (And.intro @i64.eq_1 (And.intro q1 (And.intro hHc (And.intro hgi (And.intro hx1 h01)))))))); (iterate 7 (first | refine hGx _ ?_ | refine hNx _ ?_ | refine W_skip ?_ | refine W_exit ?_ | refine W_ret ?_ | refine W_label ?_ | refine W_scope ?_ | refine W_block ?_ | refine W_seq ?_ | ((first | refine tS fun N hNx => ?_ | refine WL_gE rfl rfl (by kernel_rfl) (by kernel_rfl) fun G hGx => ?_ | refine vcOpsS_sound (by kernel_rfl) ?_ | refine W_ifE fun A B hAx hBx => ?_); refine evT ?_; (first | refine hGx _ ?_ | refine hNx _ ?_ | refine hAx ?_ | refine hBx ?_ | skip)))); (try clear fs))
      refine W_midA 49 (.val (.slice none 0 0)) (.seq 1 []) imp_nil (fun s' => s'.df = [] ∧ s'.fr 0 = relD n b1 b2 ∧ s'.fr 5 = .val (.map (some bm)) ∧ s'.fr 6 = .os c oo 1 0 S1.length ∧ s'.fr 9 = i64 i1 ∧ s'.fr 49 = .seq 1 ((preds l x).map iD) ∧ s'.fr 50 = i64 (preds l x).length ∧ s'.fr 51 = i64 0 ∧ s'.H = s1.H) ?_ ?_
      · unfold optS at hgm
        by_cases hsx : preds l x = []
        · rw [if_pos hsx] at hgm
          refine W_drawE (fun _ _ _ _ => False) (by kernel_rfl) (by kernel_rfl) (by kernel_rfl) fun N hNx => ?_; (have fs := And.intro k0 (And.intro k5 (And.intro k9 (And.intro f6 (And.intro @i64.eq_1 (And.intro @relD.eq_1 (And.intro hm2' (And.intro hgm (And.intro hHc (And.intro hgi (And.intro hx1 h01)))))))))); (repeat ((first | refine vcD_g rfl rfl fun G hGx => ?_ | refine vcDS_to ?_); refine evD ?_; (first | refine hGx _ ?_ | refine hNx _ ?_ | skip))); (try clear fs))
          exact ⟨by omega, hkx, hNx _ (.inr ⟨rfl, kdf, k0, k5, f6, k9, by rw [hsx]; rfl, by rw [hsx]; rfl, rfl, rfl⟩)⟩
        · rw [if_neg hsx] at hgm
          refine W_drawE (fun _ _ _ _ => False) (by kernel_rfl) (by kernel_rfl) (by kernel_rfl) fun N hNx => ?_; (have fs := And.intro k0 (And.intro k5 (And.intro k9 (And.intro f6 (And.intro @i64.eq_1 (And.intro @relD.eq_1 (And.intro hm2' (And.intro hgm (And.intro hHc (And.intro hgi (And.intro hx1 h01)))))))))); (repeat ((first | refine vcD_g rfl rfl fun G hGx => ?_ | refine vcDS_to ?_); refine evD ?_; (first | refine hGx _ ?_ | refine hNx _ ?_ | skip))); (try clear fs))
          exact ⟨by omega, hkx, hNx _ (.inl ⟨kdf, k0, k5, f6, k9, rfl, rfl, rfl, rfl⟩)⟩
      rintro s2 ⟨gdf, g0, g5, g6, g9, g49, g50, g51, hH2⟩
      have hpl : (List.map iD (preds l x)).length = (preds l x).length := List.length_map _
      refine W_block ?_
      refine W_loopN (preds l x).length (fun j s => s.df = [] ∧ s.fr 0 = relD n b1 b2 ∧ s.fr 5 = .val (.map (some bm)) ∧ s.fr 9 = i64 i1 ∧ s.fr 49 = .seq 1 ((preds l x).map iD) ∧ s.fr 50 = i64 (preds l x).length ∧ s.fr 51 = i64 j ∧ H.le s.H ∧ ∃ M S, s.H bm = some (.map M) ∧ IntM M (trueB S) ∧ OwnL H bm S (s.fr 6) s.H ∧ CS l n o S i1 ∧ S[i1]? = some x ∧ ∀ t (h : t < (preds l x).length), t < j → (preds l x)[t] ∈ S) ?_ ?_
      · refine ⟨gdf, g0, g5, g9, g49, g50, g51, by rw [hH2]; exact kle, M1, S1, by rw [hH2]; exact kHm, kM, ⟨c, oo, g6, hc0, by rw [hH2]; exact hHc, hcbm⟩, kS, by rw [List.getElem?_eq_getElem hil1, hxe], by omega⟩
      rintro j s3 hj ⟨ldf, l0, l5, l9, l49, l50, l51, lle, M3, S3, lHm, lM, ⟨c3, o3, l6, hc30, hHc3, hc3m⟩, lS, lSi, lcov⟩
      have hjx : (j : Int).toNat = j := Int.toNat_natCast _
      have h0j : (0 : Int) ≤ (j : Int) := Int.natCast_nonneg _
      have hi3 : i1 < S3.length := (List.getElem?_eq_some_iff.1 lSi).1
      have hS3n := nodup_le lS.nd fun z hz => (lS.inr z hz).1
      by_cases hjl : j < (preds l x).length
      case neg =>
        have q3 : ((j : Int) < ((preds l x).length : Int)) = False := eq_false (by omega)
        have w3 : IntKind.i64.wrap ((i1 : Int) + 1) = ((i1 + 1 : Nat) : Int) := by rw [wrap_i64_of (by omega)]; omega
        (have fs := And.intro l9 (And.intro l50 (And.intro l51 (And.intro @i64.eq_1 (And.intro q3 w3)))); (repeat (first | refine hGx _ ?_ | refine hNx _ ?_ | refine W_skip ?_ | refine W_exit ?_ | refine W_ret ?_ | refine W_label ?_ | refine W_scope ?_ | refine W_block ?_ | refine W_seq ?_ | ((first | refine tS fun N hNx => ?_ | refine WL_gE rfl rfl (by kernel_rfl) (by kernel_rfl) fun G hGx => ?_ | refine vcOpsS_sound (by kernel_rfl) ?_ | refine W_ifE fun A B hAx hBx => ?_); refine evT ?_; (first | refine hGx _ ?_ | refine hNx _ ?_ | refine hAx ?_ | refine hBx ?_ | skip)))); (try clear fs))
        refine ⟨n.toNat - (i1 + 1), (show _ < _ by omega), i1 + 1, S3, ⟨ldf, l0, l5, rfl, lle, M3, some c3, lHm, lM, .inr ⟨c3, o3, rfl, by rw [List.length_map]; exact l6, hc30, hHc3⟩, (fun e => hc3m (by injection e)), ⟨lS.nd, lS.inr, lS.st, fun y hy z hz => ?_⟩, by omega⟩, rfl⟩
        rw [List.take_add_one, lSi] at hy
        rcases List.mem_append.1 hy with hy | hy
        · exact lS.cl y hy z hz
        · have hyx : y = x := by simpa using hy
          subst hyx
          obtain ⟨t, ht, he⟩ := List.getElem_of_mem (mem_preds.2 hz)
          rw [← he]
          exact lcov t ht (by omega)
      have q3 : ((j : Int) < ((preds l x).length : Int)) = True := eq_true (by omega)
      have hgj := get_ints hjl
      obtain ⟨y, hy⟩ : ∃ y, y = (preds l x)[j] := ⟨_, rfl⟩
      rw [← hy] at hgj
      have hyl : (y, x) ∈ l := mem_preds.1 (by rw [hy]; exact List.getElem_mem hjl)
      have hyR := (hin _ hyl).1
      simp only at hyR
      have hy64 : -9223372036854775808 ≤ y ∧ y ≤ 9223372036854775807 := by unfold InR at hyR; omega
      have w4 : IntKind.i64.wrap ((j : Int) + 1) = ((j + 1 : Nat) : Int) := by
        have : (preds l x).length ≤ l.length := by unfold preds; rw [List.length_map]; exact List.length_filter_le _ _
        rw [wrap_i64_of (by omega)]; omega
      have hky := lM.ok (P := Try.prog) Try.underlying3 hy64
      have hlk3 := lM.get y
      by_cases hyS : y ∈ S3
      · have hl2 : trueB S3 y = some (.val (.bool true)) := if_pos hyS
        rw [hl2] at hlk3
        (have fs := And.intro l5 (And.intro l49 (And.intro l50 (And.intro l51 (And.intro @i64.eq_1 (And.intro q3 (And.intro hgj (And.intro hjx (And.intro h0j (And.intro hjl (And.intro hpl (And.intro lHm hlk3))))))))))); (repeat (first | refine hGx _ ?_ | refine hNx _ ?_ | refine W_skip ?_ | refine W_exit ?_ | refine W_ret ?_ | refine W_label ?_ | refine W_scope ?_ | refine W_block ?_ | refine W_seq ?_ | ((first | refine tS fun N hNx => ?_ | refine WL_gE rfl rfl (by kernel_rfl) (by kernel_rfl) fun G hGx => ?_ | refine vcOpsS_sound (by kernel_rfl) ?_ | refine W_ifE fun A B hAx hBx => ?_); refine evT ?_; (first | refine hGx _ ?_ | refine hNx _ ?_ | refine hAx ?_ | refine hBx ?_ | skip)))); (try clear fs))
        refine ⟨hky, ?_⟩
        (have fs := And.intro l51 (And.intro @i64.eq_1 w4); (repeat (first | refine hGx _ ?_ | refine hNx _ ?_ | refine W_skip ?_ | refine W_exit ?_ | refine W_ret ?_ | refine W_label ?_ | refine W_scope ?_ | refine W_block ?_ | refine W_seq ?_ | ((first | refine tS fun N hNx => ?_ | refine WL_gE rfl rfl (by kernel_rfl) (by kernel_rfl) fun G hGx => ?_ | refine vcOpsS_sound (by kernel_rfl) ?_ | refine W_ifE fun A B hAx hBx => ?_); refine evT ?_; (first | refine hGx _ ?_ | refine hNx _ ?_ | refine hAx ?_ | refine hBx ?_ | skip)))); (try clear fs))
        refine ⟨hjl, ldf, l0, l5, l9, l49, l50, rfl, lle, M3, S3, lHm, lM, ⟨c3, o3, l6, hc30, hHc3, hc3m⟩, lS, lSi, fun t ht htj => ?_⟩
        by_cases hte : t = j
        · subst hte; rw [← hy]; exact hyS
        · exact lcov t ht (by omega)
      · have hl2 : trueB S3 y = none := if_neg hyS
        rw [hl2] at hlk3
        (have fs := And.intro l5 (And.intro l49 (And.intro l50 (And.intro l51 (And.intro @i64.eq_1 (And.intro q3 (And.intro hgj (And.intro hjx (And.intro h0j (And.intro hjl (And.intro hpl (And.intro lHm hlk3))))))))))); (repeat (first | refine hGx _ ?_ | refine hNx _ ?_ | refine W_skip ?_ | refine W_exit ?_ | refine W_ret ?_ | refine W_label ?_ | refine W_scope ?_ | refine W_block ?_ | refine W_seq ?_ | ((first | refine tS fun N hNx => ?_ | refine WL_gE rfl rfl (by kernel_rfl) (by kernel_rfl) fun G hGx => ?_ | refine vcOpsS_sound (by kernel_rfl) ?_ | refine W_ifE fun A B hAx hBx => ?_); refine evT ?_; (first | refine hGx _ ?_ | refine hNx _ ?_ | refine hAx ?_ | refine hBx ?_ | skip)))); (try clear fs))
        refine ⟨hky, ?_⟩
        (have fs := And.intro l5 (And.intro l51 (And.intro @i64.eq_1 lHm)); (repeat (first | refine hGx _ ?_ | refine hNx _ ?_ | refine W_skip ?_ | refine W_exit ?_ | refine W_ret ?_ | refine W_label ?_ | refine W_scope ?_ | refine W_block ?_ | refine W_seq ?_ | ((first | refine tS fun N hNx => ?_ | refine WL_gE rfl rfl (by kernel_rfl) (by kernel_rfl) fun G hGx => ?_ | refine vcOpsS_sound (by kernel_rfl) ?_ | refine W_ifE fun A B hAx hBx => ?_); refine evT ?_; (first | refine hGx _ ?_ | refine hNx _ ?_ | refine hAx ?_ | refine hBx ?_ | skip)))); (try clear fs))
        refine ⟨hky, ?_⟩
        have hM4 : IntM (mset M3 (.int .i64 y) (.val (.bool true))) (trueB (S3 ++ [y])) := (lM.set hy64 (.val (.bool true))).congr (trueB_snoc y S3)
        obtain ⟨M4, hM4e⟩ : ∃ M4, M4 = mset M3 (.int .i64 y) (.val (.bool true)) := ⟨_, rfl⟩
        rw [← hM4e] at hM4 ⊢
        have hm4 : (s3.H.upd bm (.map M4)) bm = some (.map M4) := Heap.upd_same _ _ _
        have hle4 : H.le (s3.H.upd bm (.map M4)) := Heap.le_put lle hbm
        have hg4 : Gl H 3 1 (S3.map iD) (.os c3 o3 1 0 S3.length) (s3.H.upd bm (.map M4)) (some c3) := .inr ⟨c3, o3, rfl, by rw [List.length_map], hc30, by rw [Heap.upd_ne hc3m]; exact hHc3⟩
        have hnm : (some c3 : Option Nat) ≠ some bm := fun e => hc3m (by injection e)
        (have fs := And.intro l6 (And.intro @i64.eq_1 w4); (repeat (first | refine hGx _ ?_ | refine hNx _ ?_ | refine W_skip ?_ | refine W_exit ?_ | refine W_ret ?_ | refine W_label ?_ | refine W_scope ?_ | refine W_block ?_ | refine W_seq ?_ | ((first | refine tS fun N hNx => ?_ | refine WL_gE rfl rfl (by kernel_rfl) (by kernel_rfl) fun G hGx => ?_ | refine vcOpsS_sound (by kernel_rfl) ?_ | refine W_ifE fun A B hAx hBx => ?_); refine evT ?_; (first | refine hGx _ ?_ | refine hNx _ ?_ | refine hAx ?_ | refine hBx ?_ | skip)))); (try clear fs))
        refine apV_grow (e := 3) ty43 rfl ty43 rfl ty3 rfl (by decide) hle4 hg4 (new := [iD y]) (by exact ⟨rfl, rfl⟩) (by rw [List.length_map]; show (_ + 1) * 8 ≤ _; omega) fun d H6 ob6 hg6 hle6 hp6 => ?_
        have hm6 := hp6 _ _ hm4 hnm
        rw [show [iD y] = [y].map iD from rfl, ← List.map_append] at hg6
        have hg6' : OwnL H bm (S3 ++ [y]) d H6 := by
          rcases hg6 with ⟨_, _, h⟩ | ⟨c, o, h0, h1, h2, h3⟩
          · simp at h
          · exact ⟨c, o, by rw [h1, List.length_map], h2, h3, fun e => hm6.2 (by rw [h0, e])⟩
        (have fs := And.intro l51 (And.intro @i64.eq_1 w4); (repeat (first | refine hGx _ ?_ | refine hNx _ ?_ | refine W_skip ?_ | refine W_exit ?_ | refine W_ret ?_ | refine W_label ?_ | refine W_scope ?_ | refine W_block ?_ | refine W_seq ?_ | ((first | refine tS fun N hNx => ?_ | refine WL_gE rfl rfl (by kernel_rfl) (by kernel_rfl) fun G hGx => ?_ | refine vcOpsS_sound (by kernel_rfl) ?_ | refine W_ifE fun A B hAx hBx => ?_); refine evT ?_; (first | refine hGx _ ?_ | refine hNx _ ?_ | refine hAx ?_ | refine hBx ?_ | skip)))); (try clear fs))
        refine ⟨hjl, ldf, l0, l5, l9, l49, l50, rfl, hle6, M4, S3 ++ [y], hm6.1, hM4, hg6', ⟨?_, ?_, ?_, ?_⟩, ?_, fun t ht htj => ?_⟩
        · rw [List.nodup_append]
          exact ⟨lS.nd, by simp, fun z hz w hw => by rw [List.mem_singleton] at hw; subst hw; exact fun e => hyS (e ▸ hz)⟩
        · intro z hz
          rcases List.mem_append.1 hz with hz | hz
          · exact lS.inr z hz
          · rw [List.mem_singleton] at hz
            subst hz
            obtain ⟨_, q, hq, hqR, hqr⟩ := lS.inr x (List.mem_of_getElem? lSi)
            exact ⟨hyR, q, hq, hqR, ((Reach.refl z).step hyl).trans hqr⟩
        · exact fun q hq hqR => List.mem_append.2 (.inl (lS.st q hq hqR))
        · intro z hz w hw
          rw [List.take_append_of_le_length (by omega)] at hz
          exact List.mem_append.2 (.inl (lS.cl z hz w hw))
        · rw [List.getElem?_append_left hi3]; exact lSi
        · by_cases hte : t = j
          · subst hte; rw [← hy]; simp
          · exact List.mem_append.2 (.inl (lcov t ht (by omega)))
end Go.Proofs.Ytdggkophnlldoaa
