/- Lemmas and contracts of functions, several texts in one: RN RO. -/
import Derived.Test.YtdggkophnlldoaaGZ1
/- The types of the law RegionsNests, in plain Lean. -/
namespace Go.Proofs.Ytdggkophnlldoaa
open Go.RowKit
set_option linter.unusedVariables false
set_option linter.unusedSimpArgs false
def nst (t m : Bool) (j : Nat) : TyS :=
  if j = 0 then ⟨2, false, 0, 0, []⟩ else if j = 1 then ⟨3, false, 0, 0, []⟩ else if j = 2 then ⟨3, false, 1, 0, []⟩
  else if t = true then ⟨4, false, 0, 0, [((j - 2 : Nat) : Int), ((j - 2 : Nat) : Int)]⟩ else ⟨3, m, 0, ((j - 2 : Nat) : Int), []⟩
def nsts (t m : Bool) : List TyS := (List.range 61).map (nst t m)
theorem nsts_len (t m : Bool) : (nsts t m).length = 61 := by unfold nsts; simp
theorem nsts_get (t m : Bool) (i : Nat) (h : i < (nsts t m).length) : (nsts t m)[i] = nst t m i := by simp only [nsts, List.getElem_map, List.getElem_range]
theorem nst_at (t m : Bool) {j : Nat} (h : j < 61) : tyAt (nsts t m) j = nst t m j := by
  obtain ⟨h', he⟩ := tyAt_get (ts := nsts t m) (a := j) ⟨by omega, by rw [nsts_len]; omega⟩
  rw [he, nsts_get, Int.toNat_natCast]
theorem nst_wf (t m : Bool) (i : Nat) : ((nst t m i).k = 3 → 0 ≤ (nst t m i).e ∧ (nst t m i).e < i) ∧ ∀ x ∈ (nst t m i).ar, 0 ≤ x ∧ x < i := by
  unfold nst
  by_cases h0 : i = 0
  · rw [if_pos h0]; exact ⟨fun h => absurd h (by decide), fun x hx => by simp at hx⟩
  rw [if_neg h0]
  by_cases h1 : i = 1
  · rw [if_pos h1]; exact ⟨fun h => ⟨by decide, by simp only; omega⟩, fun x hx => by simp at hx⟩
  rw [if_neg h1]
  by_cases h2 : i = 2
  · rw [if_pos h2]; exact ⟨fun h => ⟨by decide, by simp only; omega⟩, fun x hx => by simp at hx⟩
  rw [if_neg h2]
  by_cases h3 : t = true
  · rw [if_pos h3]; exact ⟨fun h => absurd h (by simp), fun x hx => by simp at hx; omega⟩
  · rw [if_neg h3]; exact ⟨fun h => by simp only; omega, fun x hx => by simp at hx⟩
theorem nsts_wf (t m : Bool) : wfT (nsts t m) := fun i h => by
  rw [nsts_get]; exact nst_wf t m i
theorem in2 {a : Int} (h : a = 0 ∨ a = 1) : InR 2 a := by unfold InR; omega
theorem nsts_rr (t m : Bool) : rrT (nsts t m) 2 := fun u hu h3 => by
  obtain ⟨i, hi, rfl⟩ := List.getElem_of_mem hu
  rw [nsts_get] at h3 ⊢
  unfold nst at h3 ⊢
  by_cases h0 : i = 0
  · rw [if_pos h0]; exact ⟨by decide, by decide⟩
  rw [if_neg h0] at h3 ⊢
  by_cases h1 : i = 1
  · rw [if_pos h1]; exact ⟨by decide, by decide⟩
  rw [if_neg h1] at h3 ⊢
  by_cases h2 : i = 2
  · rw [if_pos h2]; exact ⟨by decide, by decide⟩
  rw [if_neg h2] at h3 ⊢
  by_cases h4 : t = true
  · rw [if_pos h4]; exact in2 (by simp)
  · rw [if_neg h4]; exact in2 (by simp)
def nL : List (Int × Int) := [(0, 1)]
theorem n01 : outlB nL 2 0 1 = true := outlB_t ⟨in2 (by simp), in2 (by simp), (Reach.refl 0).step (by simp [nL])⟩
theorem n00 : outlB nL 2 0 0 = true := outlB_t ⟨in2 (by simp), in2 (by simp), .refl 0⟩
theorem n_up {a b : Int} (h : Reach nL a b) : a ≤ b := by
  induction h with
  | refl => exact Int.le_refl _
  | step _ h2 ih =>
    simp only [nL, List.mem_cons, Prod.mk.injEq, List.not_mem_nil, or_false] at h2
    omega
theorem n10 : outlB nL 2 1 0 = false := outlB_f fun h => by have := n_up h.2.2; omega
theorem inN {t m : Bool} {j : Nat} (h : j < 61) : InR (nsts t m).length (j : Int) := ⟨by omega, by rw [nsts_len]; omega⟩
theorem nst0 (t m : Bool) : subT nL 2 (nsts t m) 0 0 = true := subT_refl (nsts_wf t m) (nsts_rr t m) 1 0 (by decide) (inN (j := 0) (by omega))
/-- Neighbours: the first is a subtype of the second, or not. -/
theorem nst_up (t m : Bool) : ∀ (k : Nat), 2 * k + 2 < 61 → subT nL 2 (nsts t m) ((2 * k + 1 : Nat) : Int) ((2 * k + 2 : Nat) : Int) = (decide (k = 0) || (t || !m)) ∧ subT nL 2 (nsts t m) ((2 * k + 2 : Nat) : Int) ((2 * k + 1 : Nat) : Int) = false
  | 0, _ => by
    have e0 := nst0 t m
    constructor
    · rw [subT_eq (nsts_wf t m) (inN (by omega)) (inN (by omega)), nst_at t m (by omega), nst_at t m (by omega)]
      simp [nst, n01, e0]
    · rw [subT_eq (nsts_wf t m) (inN (by omega)) (inN (by omega)), nst_at t m (by omega), nst_at t m (by omega)]
      simp [nst, n10]
  | k + 1, hk => by
    obtain ⟨i1, i2⟩ := nst_up t m k (by omega)
    have a1 : nst t m (2 * (k + 1) + 1) = if t = true then ⟨4, false, 0, 0, [((2 * k + 1 : Nat) : Int), ((2 * k + 1 : Nat) : Int)]⟩ else ⟨3, m, 0, ((2 * k + 1 : Nat) : Int), []⟩ := by
      unfold nst
      rw [if_neg (by omega), if_neg (by omega), if_neg (by omega), show 2 * (k + 1) + 1 - 2 = 2 * k + 1 by omega]
    have a2 : nst t m (2 * (k + 1) + 2) = if t = true then ⟨4, false, 0, 0, [((2 * k + 2 : Nat) : Int), ((2 * k + 2 : Nat) : Int)]⟩ else ⟨3, m, 0, ((2 * k + 2 : Nat) : Int), []⟩ := by
      unfold nst
      rw [if_neg (by omega), if_neg (by omega), if_neg (by omega), show 2 * (k + 1) + 2 - 2 = 2 * k + 2 by omega]
    have hk0 : ¬ k + 1 = 0 := by omega
    rw [subT_eq (nsts_wf t m) (inN (by omega)) (inN (by omega)), subT_eq (nsts_wf t m) (inN (by omega)) (inN (by omega)), nst_at t m (by omega), nst_at t m (by omega), a1, a2]
    obtain ⟨x, hx⟩ : ∃ x : Int, x = ((2 * k + 1 : Nat) : Int) := ⟨_, rfl⟩
    obtain ⟨y, hy⟩ : ∃ y : Int, y = ((2 * k + 2 : Nat) : Int) := ⟨_, rfl⟩
    rw [← hx, ← hy] at i1 i2 ⊢
    cases t with
    | true => simp [i1, i2, hk0]
    | false =>
      cases m with
      | true => simp [i1, i2, hk0, n00]
      | false => simp [i1, i2, hk0, n00]
theorem nst_end (t m : Bool) : subX nL 2 (nsts t m) 59 60 = (t || !m) ∧ subX nL 2 (nsts t m) 60 59 = false ∧ subX nL 2 (nsts t m) 60 60 = true := by
  have h := nst_up t m 29 (by omega)
  have h9 : InR (nsts t m).length 59 := inN (j := 59) (by omega)
  have h0 : InR (nsts t m).length 60 := inN (j := 60) (by omega)
  rw [subX_t h9 h0, subX_t h0 h9, subX_t h0 h0]
  exact ⟨by simpa using h.1, by simpa using h.2, subT_refl (nsts_wf t m) (nsts_rr t m) 61 60 (by decide) h0⟩
end Go.Proofs.Ytdggkophnlldoaa
/- The law RegionsNests: the walk. -/
namespace Go.Proofs.Ytdggkophnlldoaa
open Go.RowKit
set_option linter.unusedVariables false
set_option maxRecDepth 100000
set_option linter.unusedSimpArgs false
/-- The type's cells as the law makes them: a missing slice is nil. -/
def nsD (t m : Bool) (j : Nat) : List D :=
  if j = 0 then [i64 2, .val (.bool false), i64 0, i64 0, .val (.slice none 0 0)] else if j = 1 then [i64 3, .val (.bool false), i64 0, i64 0, .val (.slice none 0 0)] else if j = 2 then [i64 3, .val (.bool false), i64 1, i64 0, .val (.slice none 0 0)]
  else if t = true then [i64 4, .val (.bool false), i64 0, i64 0, .seq 1 [iD ((j - 2 : Nat) : Int), iD ((j - 2 : Nat) : Int)]] else [i64 3, .val (.bool m), i64 0, i64 ((j - 2 : Nat) : Int), .val (.slice none 0 0)]
theorem nsD_imp (t m : Bool) (j : Nat) : ImpL (nsD t m j) (tyD (nst t m j)) := by
  unfold nsD nst
  by_cases h0 : j = 0
  · rw [if_pos h0, if_pos h0]; exact ty_imp _ _ _ _
  rw [if_neg h0, if_neg h0]
  by_cases h1 : j = 1
  · rw [if_pos h1, if_pos h1]; exact ty_imp _ _ _ _
  rw [if_neg h1, if_neg h1]
  by_cases h2 : j = 2
  · rw [if_pos h2, if_pos h2]; exact ty_imp _ _ _ _
  rw [if_neg h2, if_neg h2]
  by_cases h3 : t = true
  · rw [if_pos h3, if_pos h3]; exact impl_refl _
  · rw [if_neg h3, if_neg h3]; exact ty_imp _ _ _ _
theorem impr_map {α : Type} {f g : α → List D} : ∀ (l : List α), (∀ x, ImpL (f x) (g x)) → ImpR (l.map f) (l.map g)
  | [], _ => trivial
  | x :: l, h => ⟨h x, impr_map l h⟩
def nsDs (t m : Bool) (n : Nat) : List (List D) := (List.range n).map (nsD t m)
theorem nsDs_len (t m : Bool) (n : Nat) : (nsDs t m n).length = n := by unfold nsDs; simp
theorem nsDs_succ (t m : Bool) (n : Nat) : nsDs t m n ++ [nsD t m n] = nsDs t m (n + 1) := by unfold nsDs; rw [List.range_succ, List.map_append]; rfl
theorem nsDs_imp (t m : Bool) : ImpR (nsDs t m 61) ((nsts t m).map tyD) := by
  unfold nsDs nsts
  rw [List.map_map]
  exact impr_map _ fun j => nsD_imp t m j
/-- The own row of the list. -/
def NsO (t m : Bool) (n : Nat) (s : St) : Prop := ∃ c o, s.fr 5 = .os c o 5 0 n ∧ s.H c = some (.row 83 o 5 (nsDs t m n))
set_option maxHeartbeats 2000000 in
theorem rnests_N (t m : Bool) : Does Try.prog 15 [.val (.bool t), .val (.bool m)] .none fun d _ => d = .val (.bool true) := by
  refine does_of _ _ Try.func15 rfl rfl Try.ntmps15 Try.results15 (by simp only [List.length_cons, List.length_nil]; omega) fun w0 Q hret => ?_
  (have fs := @i64.eq_1; (repeat (first | refine hGx _ ?_ | refine hNx _ ?_ | refine W_skip ?_ | refine W_exit ?_ | refine W_ret ?_ | refine W_label ?_ | refine W_scope ?_ | refine W_block ?_ | refine W_seq ?_ | ((first | refine tT fun N hNx => ?_ | refine WL_gO rfl rfl (by kernel_rfl) (by kernel_rfl) fun G hGx => ?_ | refine vcOpsT_sound (by kernel_rfl) ?_ | refine W_ifE fun A B hAx hBx => ?_); refine evT ?_; (first | refine hGx _ ?_ | refine hNx _ ?_ | refine hAx ?_ | refine hBx ?_ | skip)))); (try clear fs))
  intro c hc
  (have fs := @i64.eq_1; (repeat (first | refine hGx _ ?_ | refine hNx _ ?_ | refine W_skip ?_ | refine W_exit ?_ | refine W_ret ?_ | refine W_label ?_ | refine W_scope ?_ | refine W_block ?_ | refine W_seq ?_ | ((first | refine tS fun N hNx => ?_ | refine WL_gE rfl rfl (by kernel_rfl) (by kernel_rfl) fun G hGx => ?_ | refine vcOpsS_sound (by kernel_rfl) ?_ | refine W_ifE fun A B hAx hBx => ?_); refine evT ?_; (first | refine hGx _ ?_ | refine hNx _ ?_ | refine hAx ?_ | refine hBx ?_ | skip)))); (try clear fs))
  refine W_loopN 29 (fun i s => s.df = [] ∧ s.fr 0 = .val (.bool t) ∧ s.fr 1 = .val (.bool m) ∧ s.fr 6 = i64 ((2 * i + 1 : Nat) : Int) ∧ NsO t m (2 * i + 3) s) ⟨rfl, rfl, rfl, rfl, c, 0, rfl, Heap.upd_same _ _ _⟩ ?_
  rintro i s hi ⟨hdf, f0, f1, f6, c1, o1, f5, hHc⟩
  by_cases hil : i < 29
  case neg =>
    have hie : i = 29 := by omega
    subst hie
    have hsz : List.take 61 (List.drop 0 (nsDs t m 61)) = nsDs t m 61 := by rw [List.drop_zero, List.take_of_length_le (by rw [nsDs_len]; omega)]
    refine W_freeze 5 f5 hHc (by rw [nsDs_len]; omega) ?_
    refine W_as 5 (.seq 5 ((nsts t m).map tyD)) (fun w v hv => imp_seq (nsDs_imp t m) _ _ _ (by have h2 : D.is w _ (.seq 5 (List.take 61 (List.drop 0 (nsDs t m 61)))) v := hv; rw [hsz] at h2; exact h2)) ?_
    have hnl : (List.map tyD (nsts t m)).length = 61 := by rw [List.length_map, nsts_len]
    simp only [St.frz]
    (have fs := And.intro @i64.eq_1 hnl; (repeat (first | refine hGx _ ?_ | refine hNx _ ?_ | refine W_skip ?_ | refine W_exit ?_ | refine W_ret ?_ | refine W_label ?_ | refine W_scope ?_ | refine W_block ?_ | refine W_seq ?_ | ((first | refine tS fun N hNx => ?_ | refine WL_gE rfl rfl (by kernel_rfl) (by kernel_rfl) fun G hGx => ?_ | refine vcOpsS_sound (by kernel_rfl) ?_ | refine W_ifE fun A B hAx hBx => ?_); refine evT ?_; (first | refine hGx _ ?_ | refine hNx _ ?_ | refine hAx ?_ | refine hBx ?_ | skip)))); (try clear fs))
    refine (new_N nL 2 _ (by decide) (by decide)).mono ?_
    rintro d H1 ⟨b1, b2, m1, m2, rfl, hb1, hb2, hne, hH1, hR, hle1⟩
    have hin : ∀ p ∈ nL, InR 2 p.1 ∧ InR 2 p.2 := by
      intro p hp
      simp only [nL, List.mem_cons, List.not_mem_nil, or_false] at hp
      subst hp
      exact ⟨in2 (by simp), in2 (by simp)⟩
    have hsl : (nsts t m).length ≤ 1000000 := by rw [nsts_len]; omega
    have har : ∀ u ∈ nsts t m, u.ar.length ≤ 140737488351232 := fun u hu => by
      obtain ⟨i, hi, rfl⟩ := List.getElem_of_mem hu
      rw [nsts_get]
      unfold nst
      (repeat' split) <;> simp
    obtain ⟨e1, e2, e3⟩ := nst_end t m
    (have fs := And.intro @i64.eq_1 hnl; (repeat (first | refine hGx _ ?_ | refine hNx _ ?_ | refine W_skip ?_ | refine W_exit ?_ | refine W_ret ?_ | refine W_label ?_ | refine W_scope ?_ | refine W_block ?_ | refine W_seq ?_ | ((first | refine tS fun N hNx => ?_ | refine WL_gE rfl rfl (by kernel_rfl) (by kernel_rfl) fun G hGx => ?_ | refine vcOpsS_sound (by kernel_rfl) ?_ | refine W_ifE fun A B hAx hBx => ?_); refine evT ?_; (first | refine hGx _ ?_ | refine hNx _ ?_ | refine hAx ?_ | refine hBx ?_ | skip)))); (try clear fs))
    refine (alive7_at _).mono ?_; rintro d _ ⟨rfl, rfl⟩
    have hN2 := hNx
    cases t <;> cases m <;>
      ((have fs := @i64.eq_1; (repeat (first | refine hGx _ ?_ | refine hNx _ ?_ | refine W_skip ?_ | refine W_exit ?_ | refine W_ret ?_ | refine W_label ?_ | refine W_scope ?_ | refine W_block ?_ | refine W_seq ?_ | ((first | refine tS fun N hNx => ?_ | refine WL_gE rfl rfl (by kernel_rfl) (by kernel_rfl) fun G hGx => ?_ | refine vcOpsS_sound (by kernel_rfl) ?_ | refine W_ifE fun A B hAx hBx => ?_); refine evT ?_; (first | refine hGx _ ?_ | refine hNx _ ?_ | refine hAx ?_ | refine hBx ?_ | skip)))); (try clear fs))
       refine (sub_N nL 2 (nsts _ _) b1 b2 _ (nsts_wf _ _) hin (by decide) (by decide) hsl har hR 59 60).mono ?_
       rintro d _ ⟨rfl, rfl⟩
       rw [e1]
       (have fs := And.intro f0 (And.intro f1 (And.intro @i64.eq_1 (And.intro @Bool.or_true @Bool.or_false))); (repeat (first | refine hGx _ ?_ | refine hNx _ ?_ | refine W_skip ?_ | refine W_exit ?_ | refine W_ret ?_ | refine W_label ?_ | refine W_scope ?_ | refine W_block ?_ | refine W_seq ?_ | ((first | refine tS fun N hNx => ?_ | refine WL_gE rfl rfl (by kernel_rfl) (by kernel_rfl) fun G hGx => ?_ | refine vcOpsS_sound (by kernel_rfl) ?_ | refine W_ifE fun A B hAx hBx => ?_); refine evT ?_; (first | refine hGx _ ?_ | refine hNx _ ?_ | refine hAx ?_ | refine hBx ?_ | skip)))); (try clear fs))
       refine (sub_N nL 2 (nsts _ _) b1 b2 _ (nsts_wf _ _) hin (by decide) (by decide) hsl har hR 60 59).mono ?_
       rintro d _ ⟨rfl, rfl⟩
       rw [e2]
       (have fs := And.intro f0 (And.intro f1 (And.intro @i64.eq_1 (And.intro @Bool.or_true @Bool.or_false))); (repeat (first | refine hGx _ ?_ | refine hNx _ ?_ | refine W_skip ?_ | refine W_exit ?_ | refine W_ret ?_ | refine W_label ?_ | refine W_scope ?_ | refine W_block ?_ | refine W_seq ?_ | ((first | refine tS fun N hNx => ?_ | refine WL_gE rfl rfl (by kernel_rfl) (by kernel_rfl) fun G hGx => ?_ | refine vcOpsS_sound (by kernel_rfl) ?_ | refine W_ifE fun A B hAx hBx => ?_); refine evT ?_; (first | refine hGx _ ?_ | refine hNx _ ?_ | refine hAx ?_ | refine hBx ?_ | skip)))); (try clear fs))
       refine (sub_N nL 2 (nsts _ _) b1 b2 _ (nsts_wf _ _) hin (by decide) (by decide) hsl har hR 60 60).mono ?_
       rintro d _ ⟨rfl, rfl⟩
       rw [e3]
       (have fs := And.intro f0 (And.intro f1 (And.intro @i64.eq_1 (And.intro @Bool.or_true @Bool.or_false))); (repeat (first | refine hGx _ ?_ | refine hNx _ ?_ | refine W_skip ?_ | refine W_exit ?_ | refine W_ret ?_ | refine W_label ?_ | refine W_scope ?_ | refine W_block ?_ | refine W_seq ?_ | ((first | refine tS fun N hNx => ?_ | refine WL_gE rfl rfl (by kernel_rfl) (by kernel_rfl) fun G hGx => ?_ | refine vcOpsS_sound (by kernel_rfl) ?_ | refine W_ifE fun A B hAx hBx => ?_); refine evT ?_; (first | refine hGx _ ?_ | refine hNx _ ?_ | refine hAx ?_ | refine hBx ?_ | skip)))); (try clear fs))
       refine hN2 _ ?_
       (have fs := @i64.eq_1; (repeat (first | refine hGx _ ?_ | refine hNx _ ?_ | refine W_skip ?_ | refine W_exit ?_ | refine W_ret ?_ | refine W_label ?_ | refine W_scope ?_ | refine W_block ?_ | refine W_seq ?_ | ((first | refine tS fun N hNx => ?_ | refine WL_gE rfl rfl (by kernel_rfl) (by kernel_rfl) fun G hGx => ?_ | refine vcOpsS_sound (by kernel_rfl) ?_ | refine W_ifE fun A B hAx hBx => ?_); refine evT ?_; (first | refine hGx _ ?_ | refine hNx _ ?_ | refine hAx ?_ | refine hBx ?_ | skip)))); (try clear fs))
       (first | (show Q .ret _) | (show Q .normal _) | skip); refine hret _ _ (by first | exact .inr rfl | exact .inl rfl) (by first | rfl | assumption | (simp only [put_df, withH_df]; assumption)) ?_; have fs := hdf; refine evT ?_; clear fs
       exact ⟨_, Heap.le_refl _⟩)
  have q1 : (((2 * i + 3 : Nat) : Int) < 61) = True := eq_true (by omega)
  (have fs := And.intro f5 (And.intro @i64.eq_1 q1); (repeat (first | refine hGx _ ?_ | refine hNx _ ?_ | refine W_skip ?_ | refine W_exit ?_ | refine W_ret ?_ | refine W_label ?_ | refine W_scope ?_ | refine W_block ?_ | refine W_seq ?_ | ((first | refine tS fun N hNx => ?_ | refine WL_gE rfl rfl (by kernel_rfl) (by kernel_rfl) fun G hGx => ?_ | refine vcOpsS_sound (by kernel_rfl) ?_ | refine W_ifE fun A B hAx hBx => ?_); refine evT ?_; (first | refine hGx _ ?_ | refine hNx _ ?_ | refine hAx ?_ | refine hBx ?_ | skip)))); (try clear fs))
  refine W_loopN 2 (fun k s => s.df = [] ∧ s.fr 0 = .val (.bool t) ∧ s.fr 1 = .val (.bool m) ∧ s.fr 6 = i64 ((2 * i + 1 : Nat) : Int) ∧ s.fr 21 = i64 k ∧ NsO t m (2 * i + 3 + k) s) ⟨hdf, f0, f1, f6, rfl, c1, o1, f5, hHc⟩ ?_
  rintro k s2 hk ⟨hdf2, g0, g1, g6, g21, c2, o2, g5, hHc2⟩
  by_cases hkl : k < 2
  case neg =>
    have hke : k = 2 := by omega
    subst hke
    have w1 : IntKind.i64.wrap (((2 * i + 1 : Nat) : Int) + 2) = ((2 * (i + 1) + 1 : Nat) : Int) := by rw [wrap_i64_of (by omega)]; omega
    (have fs := And.intro g6 (And.intro g21 (And.intro @i64.eq_1 w1)); (repeat (first | refine hGx _ ?_ | refine hNx _ ?_ | refine W_skip ?_ | refine W_exit ?_ | refine W_ret ?_ | refine W_label ?_ | refine W_scope ?_ | refine W_block ?_ | refine W_seq ?_ | ((first | refine tS fun N hNx => ?_ | refine WL_gE rfl rfl (by kernel_rfl) (by kernel_rfl) fun G hGx => ?_ | refine vcOpsS_sound (by kernel_rfl) ?_ | refine W_ifE fun A B hAx hBx => ?_); refine evT ?_; (first | refine hGx _ ?_ | refine hNx _ ?_ | refine hAx ?_ | refine hBx ?_ | skip)))); (try clear fs))
    exact ⟨hil, hdf2, g0, g1, rfl, c2, o2, g5, hHc2⟩
  have q2 : ((k : Int) < 2) = True := eq_true (by omega)
  have w2 : IntKind.i64.wrap (((2 * i + 1 : Nat) : Int) + (k : Int)) = ((2 * i + 3 + k - 2 : Nat) : Int) := by rw [wrap_i64_of (by omega)]; omega
  have w3 : IntKind.i64.wrap ((k : Int) + 1) = ((k + 1 : Nat) : Int) := by rw [wrap_i64_of (by omega)]; omega
  (have fs := And.intro g1 (And.intro g6 (And.intro g21 (And.intro @i64.eq_1 (And.intro q2 w2)))); (repeat (first | refine hGx _ ?_ | refine hNx _ ?_ | refine W_skip ?_ | refine W_exit ?_ | refine W_ret ?_ | refine W_label ?_ | refine W_scope ?_ | refine W_block ?_ | refine W_seq ?_ | ((first | refine tS fun N hNx => ?_ | refine WL_gE rfl rfl (by kernel_rfl) (by kernel_rfl) fun G hGx => ?_ | refine vcOpsS_sound (by kernel_rfl) ?_ | refine W_ifE fun A B hAx hBx => ?_); refine evT ?_; (first | refine hGx _ ?_ | refine hNx _ ?_ | refine hAx ?_ | refine hBx ?_ | skip)))); (try clear fs))
  intro b8 hb8
  have hcb : c2 ≠ b8 := Heap.ne_of hHc2 hb8
  refine hNx _ ?_
  cases t with
  | true =>
    (have fs := And.intro g0 (And.intro g6 (And.intro @i64.eq_1 w2)); (repeat (first | refine hGx _ ?_ | refine hNx _ ?_ | refine W_skip ?_ | refine W_exit ?_ | refine W_ret ?_ | refine W_label ?_ | refine W_scope ?_ | refine W_block ?_ | refine W_seq ?_ | ((first | refine tS fun N hNx => ?_ | refine WL_gE rfl rfl (by kernel_rfl) (by kernel_rfl) fun G hGx => ?_ | refine vcOpsS_sound (by kernel_rfl) ?_ | refine W_ifE fun A B hAx hBx => ?_); refine evT ?_; (first | refine hGx _ ?_ | refine hNx _ ?_ | refine hAx ?_ | refine hBx ?_ | skip)))); (try clear fs))
    have hcu : ∀ x, (s2.H.upd b8 x) c2 = some (.row 83 o2 5 (nsDs true m (2 * i + 3 + k))) := fun x => (Heap.upd_ne hcb).trans hHc2
    have hgl : ∀ x, Gl Heap.none 83 5 (nsDs true m (2 * i + 3 + k)) (s2.fr 5) (s2.H.upd b8 x) (some c2) := fun x => .inr ⟨c2, o2, rfl, by rw [nsDs_len]; exact g5, rfl, hcu x⟩
    refine apV_grow (e := 83) ty28 rfl ty28 rfl ty83 rfl (by decide) (Heap.le_none _) (hgl _) (new := [nsD true m (2 * i + 3 + k)]) (by unfold nsD; rw [if_neg (by omega), if_neg (by omega), if_neg (by omega)]; exact ⟨rfl, rfl⟩) (by rw [nsDs_len]; show (_ + 1) * _ ≤ _; omega) fun d H6 ob6 hg6 hle6 _ => ?_
    rw [nsDs_succ] at hg6
    have hg7 : ∃ c o, d = .os c o 5 0 (2 * i + 3 + (k + 1)) ∧ H6 c = some (.row 83 o 5 (nsDs true m (2 * i + 3 + (k + 1)))) := by
      rcases hg6 with ⟨_, _, h⟩ | ⟨c, o, _, h1, _, h3⟩
      · have := congrArg List.length h; rw [nsDs_len] at this; simp at this
      · exact ⟨c, o, by rw [h1, nsDs_len]; rfl, h3⟩
    (have fs := And.intro g21 (And.intro @i64.eq_1 w3); (repeat (first | refine hGx _ ?_ | refine hNx _ ?_ | refine W_skip ?_ | refine W_exit ?_ | refine W_ret ?_ | refine W_label ?_ | refine W_scope ?_ | refine W_block ?_ | refine W_seq ?_ | ((first | refine tS fun N hNx => ?_ | refine WL_gE rfl rfl (by kernel_rfl) (by kernel_rfl) fun G hGx => ?_ | refine vcOpsS_sound (by kernel_rfl) ?_ | refine W_ifE fun A B hAx hBx => ?_); refine evT ?_; (first | refine hGx _ ?_ | refine hNx _ ?_ | refine hAx ?_ | refine hBx ?_ | skip)))); (try clear fs))
    exact ⟨hkl, hdf2, g0, g1, g6, rfl, hg7⟩
  | false =>
    (have fs := And.intro g0 (And.intro g6 (And.intro @i64.eq_1 w2)); (repeat (first | refine hGx _ ?_ | refine hNx _ ?_ | refine W_skip ?_ | refine W_exit ?_ | refine W_ret ?_ | refine W_label ?_ | refine W_scope ?_ | refine W_block ?_ | refine W_seq ?_ | ((first | refine tS fun N hNx => ?_ | refine WL_gE rfl rfl (by kernel_rfl) (by kernel_rfl) fun G hGx => ?_ | refine vcOpsS_sound (by kernel_rfl) ?_ | refine W_ifE fun A B hAx hBx => ?_); refine evT ?_; (first | refine hGx _ ?_ | refine hNx _ ?_ | refine hAx ?_ | refine hBx ?_ | skip)))); (try clear fs))
    have hcu : ∀ x, (s2.H.upd b8 x) c2 = some (.row 83 o2 5 (nsDs false m (2 * i + 3 + k))) := fun x => (Heap.upd_ne hcb).trans hHc2
    have hgl : ∀ x, Gl Heap.none 83 5 (nsDs false m (2 * i + 3 + k)) (s2.fr 5) (s2.H.upd b8 x) (some c2) := fun x => .inr ⟨c2, o2, rfl, by rw [nsDs_len]; exact g5, rfl, hcu x⟩
    refine apV_grow (e := 83) ty28 rfl ty28 rfl ty83 rfl (by decide) (Heap.le_none _) (hgl _) (new := [nsD false m (2 * i + 3 + k)]) (by unfold nsD; rw [if_neg (by omega), if_neg (by omega), if_neg (by omega)]; exact ⟨rfl, rfl⟩) (by rw [nsDs_len]; show (_ + 1) * _ ≤ _; omega) fun d H6 ob6 hg6 hle6 _ => ?_
    rw [nsDs_succ] at hg6
    have hg7 : ∃ c o, d = .os c o 5 0 (2 * i + 3 + (k + 1)) ∧ H6 c = some (.row 83 o 5 (nsDs false m (2 * i + 3 + (k + 1)))) := by
      rcases hg6 with ⟨_, _, h⟩ | ⟨c, o, _, h1, _, h3⟩
      · have := congrArg List.length h; rw [nsDs_len] at this; simp at this
      · exact ⟨c, o, by rw [h1, nsDs_len]; rfl, h3⟩
    (have fs := And.intro g21 (And.intro @i64.eq_1 w3); (repeat (first | refine hGx _ ?_ | refine hNx _ ?_ | refine W_skip ?_ | refine W_exit ?_ | refine W_ret ?_ | refine W_label ?_ | refine W_scope ?_ | refine W_block ?_ | refine W_seq ?_ | ((first | refine tS fun N hNx => ?_ | refine WL_gE rfl rfl (by kernel_rfl) (by kernel_rfl) fun G hGx => ?_ | refine vcOpsS_sound (by kernel_rfl) ?_ | refine W_ifE fun A B hAx hBx => ?_); refine evT ?_; (first | refine hGx _ ?_ | refine hNx _ ?_ | refine hAx ?_ | refine hBx ?_ | skip)))); (try clear fs))
    exact ⟨hkl, hdf2, g0, g1, g6, rfl, hg7⟩
theorem RegionsNests_walk (x0 : X) (v0 : Value) (x1 : X) (v1 : Value) (w : World) (o0 : DT.ok (DT.bool) x0) (i0 : D.is w Heap.none.others x0.d v0) (o1 : DT.ok (DT.bool) x1) (i1 : D.is w Heap.none.others x1.d v1) :
    Calls Try.prog 15 #[v0, v1] w fun e w' => e = .returned (.bool true) ∧ Below w.heap.size w w' := by
  obtain ⟨t, rfl⟩ := ok_bool o0
  obtain ⟨m, rfl⟩ := ok_bool o1
  exact walk_of (rnests_N t m) ⟨_, _, rfl, i0, _, _, rfl, i1, rfl⟩
end Go.Proofs.Ytdggkophnlldoaa
