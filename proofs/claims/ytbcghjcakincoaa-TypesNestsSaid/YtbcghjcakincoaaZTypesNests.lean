/- The walk of the law TypesNests. -/
import Derived.Test.YtbcghjcakincoaaGT7
import Derived.Test.YtbcghjcakincoaaGT3
import Derived.Test.YtbcghjcakincoaaGY
/- The law TypesNests: the walk. -/
namespace Go.Proofs.Ytbcghjcakincoaa
open Go.RowKit
set_option linter.unusedVariables false
set_option maxRecDepth 100000
set_option linter.unusedSimpArgs false
/-- The type's cells as the law makes them: a missing slice is nil. -/
def neD (t : Bool) (j : Nat) : List D :=
  if j = 0 then [i64 2, .val (.bool false), i64 0, i64 0, .val (.slice none 0 0)]
  else if t = true then [i64 4, .val (.bool false), i64 0, i64 0, .seq 1 [iD ((j - 1 : Nat) : Int), iD ((j - 1 : Nat) : Int)]] else [i64 3, .val (.bool false), i64 0, i64 ((j - 1 : Nat) : Int), .val (.slice none 0 0)]
theorem neD_imp (t : Bool) (j : Nat) : ImpL (neD t j) (tyD (nest1 t j)) := by
  unfold neD nest1
  by_cases h0 : j = 0
  · rw [if_pos h0, if_pos h0]; exact ty_imp _ _ _ _
  rw [if_neg h0, if_neg h0]
  by_cases h3 : t = true
  · rw [if_pos h3, if_pos h3]; exact impl_refl _
  · rw [if_neg h3, if_neg h3]; exact ty_imp _ _ _ _
theorem impr_map {α : Type} {f g : α → List D} : ∀ (l : List α), (∀ x, ImpL (f x) (g x)) → ImpR (l.map f) (l.map g)
  | [], _ => trivial
  | x :: l, h => ⟨h x, impr_map l h⟩
def neDs (t : Bool) (n : Nat) : List (List D) := (List.range n).map (neD t)
theorem neDs_len (t : Bool) (n : Nat) : (neDs t n).length = n := by unfold neDs; simp
theorem neDs_succ (t : Bool) (n : Nat) : neDs t n ++ [neD t n] = neDs t (n + 1) := by unfold neDs; rw [List.range_succ, List.map_append]; rfl
theorem neDs_imp (t : Bool) (n : Nat) : ImpR (neDs t n) ((nests t n).map tyD) := by
  unfold neDs nests
  rw [List.map_map]
  exact impr_map _ fun j => neD_imp t j
/-- The own row of the list. -/
def NeO (t : Bool) (n : Nat) (s : St) : Prop := ∃ c o, s.fr 6 = .os c o 5 0 n ∧ s.H c = some (.row 51 o 5 (neDs t n))
set_option maxHeartbeats 2000000 in
theorem lnests_N (u : UInt8) (t : Bool) : Does Try.prog 13 [.val (.int .u8 u.toNat), .val (.bool t)] .none fun d _ => d = .val (.bool true) := by
  have w1 : IntKind.i64.wrap (u.toNat : Int) = (u.toNat : Int) := by have := u.toNat_lt; rw [wrap_i64_of (by omega)]
  obtain ⟨k, hk⟩ : ∃ k : Nat, (k : Int) = ((u.toNat : Int)).tmod 40 := ⟨(((u.toNat : Int)).tmod 40).toNat, by have := Int.tmod_nonneg 40 (show (0 : Int) ≤ (u.toNat : Int) by omega); omega⟩
  have hk40 : k < 40 := by have := Int.tmod_lt_of_pos (u.toNat : Int) (show (0 : Int) < 40 by omega); omega
  have w0 : IntKind.i64.wrap ((k : Int) + 1) = ((k + 1 : Nat) : Int) := by rw [wrap_i64_of (by omega)]; omega
  refine does_of _ _ Try.func13 rfl rfl Try.ntmps13 Try.results13 (by simp only [List.length_cons, List.length_nil]; omega) fun w0 Q hret => ?_
  (have fs := And.intro @i64.eq_1 (And.intro w1 @hk.symm); (repeat (first | refine hGx _ ?_ | refine hNx _ ?_ | refine W_skip ?_ | refine W_exit ?_ | refine W_ret ?_ | refine W_label ?_ | refine W_scope ?_ | refine W_block ?_ | refine W_seq ?_ | ((first | refine tT fun N hNx => ?_ | refine WL_gO rfl rfl (by kernel_rfl) (by kernel_rfl) fun G hGx => ?_ | refine vcOpsT_sound (by kernel_rfl) ?_ | refine W_ifE fun A B hAx hBx => ?_); refine evT ?_; (first | refine hGx _ ?_ | refine hNx _ ?_ | refine hAx ?_ | refine hBx ?_ | skip)))); (try clear fs))
  intro c hc
  (have fs := @i64.eq_1; (repeat (first | refine hGx _ ?_ | refine hNx _ ?_ | refine W_skip ?_ | refine W_exit ?_ | refine W_ret ?_ | refine W_label ?_ | refine W_scope ?_ | refine W_block ?_ | refine W_seq ?_ | ((first | refine tS fun N hNx => ?_ | refine WL_gE rfl rfl (by kernel_rfl) (by kernel_rfl) fun G hGx => ?_ | refine vcOpsS_sound (by kernel_rfl) ?_ | refine W_ifE fun A B hAx hBx => ?_); refine evT ?_; (first | refine hGx _ ?_ | refine hNx _ ?_ | refine hAx ?_ | refine hBx ?_ | skip)))); (try clear fs))
  refine W_loopN k (fun i s => s.df = [] ∧ s.fr 1 = .val (.bool t) ∧ s.fr 5 = i64 k ∧ s.fr 14 = i64 k ∧ s.fr 15 = i64 i ∧ NeO t (i + 1) s) ⟨rfl, rfl, rfl, rfl, rfl, c, 0, rfl, Heap.upd_same _ _ _⟩ ?_
  rintro i s hi ⟨hdf, f1, f5, f14, f15, c1, o1, f6, hHc⟩
  by_cases hil : i < k
  case neg =>
    have hie : i = k := by omega
    subst hie
    have hsz : List.take (i + 1) (List.drop 0 (neDs t (i + 1))) = neDs t (i + 1) := by rw [List.drop_zero, List.take_of_length_le (by rw [neDs_len]; omega)]
    have q1 : ((i : Int) < (i : Int)) = False := eq_false (by omega)
    (have fs := And.intro f14 (And.intro f15 (And.intro @i64.eq_1 q1)); (iterate 6 (first | refine hGx _ ?_ | refine hNx _ ?_ | refine W_skip ?_ | refine W_exit ?_ | refine W_ret ?_ | refine W_label ?_ | refine W_scope ?_ | refine W_block ?_ | refine W_seq ?_ | ((first | refine tS fun N hNx => ?_ | refine WL_gE rfl rfl (by kernel_rfl) (by kernel_rfl) fun G hGx => ?_ | refine vcOpsS_sound (by kernel_rfl) ?_ | refine W_ifE fun A B hAx hBx => ?_); refine evT ?_; (first | refine hGx _ ?_ | refine hNx _ ?_ | refine hAx ?_ | refine hBx ?_ | skip)))); (try clear fs))
    refine W_freeze 6 f6 hHc (by rw [neDs_len]; omega) ?_
    refine W_as 6 (.seq 5 ((nests t (i + 1)).map tyD)) (fun w v hv => imp_seq (neDs_imp t _) _ _ _ (by have h2 : D.is w _ (.seq 5 (List.take (i + 1) (List.drop 0 (neDs t (i + 1))))) v := hv; rw [hsz] at h2; exact h2)) ?_
    have hnl : (nests t (i + 1)).length = i + 1 := nests_len _ _
    have har : ∀ u ∈ nests t (i + 1), u.ar.length ≤ 140737488351232 := fun u hu => by
      obtain ⟨j, hj, rfl⟩ := List.getElem_of_mem hu
      rw [nests_get]
      unfold nest1
      (repeat' split) <;> simp
    simp only [St.frz]
    by_cases h32 : i + 1 ≤ 32
    · have q2 : (32 < ((i + 1 : Nat) : Int)) = False := eq_false (by omega)
      obtain ⟨_, hw, hrf, _, _⟩ := ok_facts6 (nest_ok t (i + 1) h32)
      (have fs := And.intro f5 (And.intro @i64.eq_1 (And.intro w0 q2)); (repeat (first | refine hGx _ ?_ | refine hNx _ ?_ | refine W_skip ?_ | refine W_exit ?_ | refine W_ret ?_ | refine W_label ?_ | refine W_scope ?_ | refine W_block ?_ | refine W_seq ?_ | ((first | refine tS fun N hNx => ?_ | refine WL_gE rfl rfl (by kernel_rfl) (by kernel_rfl) fun G hGx => ?_ | refine vcOpsS_sound (by kernel_rfl) ?_ | refine W_ifE fun A B hAx hBx => ?_); refine evT ?_; (first | refine hGx _ ?_ | refine hNx _ ?_ | refine hAx ?_ | refine hBx ?_ | skip)))); (try clear fs))
      refine (alive6_at _).mono ?_; rintro d _ ⟨rfl, rfl⟩
      (have fs := @i64.eq_1; (repeat (first | refine hGx _ ?_ | refine hNx _ ?_ | refine W_skip ?_ | refine W_exit ?_ | refine W_ret ?_ | refine W_label ?_ | refine W_scope ?_ | refine W_block ?_ | refine W_seq ?_ | ((first | refine tS fun N hNx => ?_ | refine WL_gE rfl rfl (by kernel_rfl) (by kernel_rfl) fun G hGx => ?_ | refine vcOpsS_sound (by kernel_rfl) ?_ | refine W_ifE fun A B hAx hBx => ?_); refine evT ?_; (first | refine hGx _ ?_ | refine hNx _ ?_ | refine hAx ?_ | refine hBx ?_ | skip)))); (try clear fs))
      refine (check_N (nests t (i + 1)) 1 _ (by omega) har).mono ?_
      rintro d _ ⟨rfl, rfl⟩
      rw [nest_ok t (i + 1) h32]
      (have fs := And.intro @i64.eq_1 f5; (repeat (first | refine hGx _ ?_ | refine hNx _ ?_ | refine W_skip ?_ | refine W_exit ?_ | refine W_ret ?_ | refine W_label ?_ | refine W_scope ?_ | refine W_block ?_ | refine W_seq ?_ | ((first | refine tS fun N hNx => ?_ | refine WL_gE rfl rfl (by kernel_rfl) (by kernel_rfl) fun G hGx => ?_ | refine vcOpsS_sound (by kernel_rfl) ?_ | refine W_ifE fun A B hAx hBx => ?_); refine evT ?_; (first | refine hGx _ ?_ | refine hNx _ ?_ | refine hAx ?_ | refine hBx ?_ | skip)))); (try clear fs))
      refine (dep_N (nests t (i + 1)) i _ hw hrf (by omega) har).mono ?_
      rintro d _ ⟨rfl, rfl⟩
      rw [nest_dep]
      (have fs := And.intro @i64.eq_1 (And.intro f5 w0); (repeat (first | refine hGx _ ?_ | refine hNx _ ?_ | refine W_skip ?_ | refine W_exit ?_ | refine W_ret ?_ | refine W_label ?_ | refine W_scope ?_ | refine W_block ?_ | refine W_seq ?_ | ((first | refine tS fun N hNx => ?_ | refine WL_gE rfl rfl (by kernel_rfl) (by kernel_rfl) fun G hGx => ?_ | refine vcOpsS_sound (by kernel_rfl) ?_ | refine W_ifE fun A B hAx hBx => ?_); refine evT ?_; (first | refine hGx _ ?_ | refine hNx _ ?_ | refine hAx ?_ | refine hBx ?_ | skip)))); (try clear fs))
      (first | (show Q .ret _) | (show Q .normal _) | skip); refine hret _ _ (by first | exact .inr rfl | exact .inl rfl) (by first | rfl | assumption | (simp only [put_df, withH_df]; assumption)) ?_; have fs := hdf; refine evT ?_; clear fs
      exact ⟨_, Heap.le_refl _⟩
    · have q2 : (32 < ((i + 1 : Nat) : Int)) = True := eq_true (by omega)
      (have fs := And.intro f5 (And.intro @i64.eq_1 (And.intro w0 q2)); (repeat (first | refine hGx _ ?_ | refine hNx _ ?_ | refine W_skip ?_ | refine W_exit ?_ | refine W_ret ?_ | refine W_label ?_ | refine W_scope ?_ | refine W_block ?_ | refine W_seq ?_ | ((first | refine tS fun N hNx => ?_ | refine WL_gE rfl rfl (by kernel_rfl) (by kernel_rfl) fun G hGx => ?_ | refine vcOpsS_sound (by kernel_rfl) ?_ | refine W_ifE fun A B hAx hBx => ?_); refine evT ?_; (first | refine hGx _ ?_ | refine hNx _ ?_ | refine hAx ?_ | refine hBx ?_ | skip)))); (try clear fs))
      refine (alive6_at _).mono ?_; rintro d _ ⟨rfl, rfl⟩
      (have fs := @i64.eq_1; (repeat (first | refine hGx _ ?_ | refine hNx _ ?_ | refine W_skip ?_ | refine W_exit ?_ | refine W_ret ?_ | refine W_label ?_ | refine W_scope ?_ | refine W_block ?_ | refine W_seq ?_ | ((first | refine tS fun N hNx => ?_ | refine WL_gE rfl rfl (by kernel_rfl) (by kernel_rfl) fun G hGx => ?_ | refine vcOpsS_sound (by kernel_rfl) ?_ | refine W_ifE fun A B hAx hBx => ?_); refine evT ?_; (first | refine hGx _ ?_ | refine hNx _ ?_ | refine hAx ?_ | refine hBx ?_ | skip)))); (try clear fs))
      refine (check_N (nests t (i + 1)) 1 _ (by omega) har).mono ?_
      rintro d _ ⟨rfl, rfl⟩
      rw [nest_bad t (i + 1) (by omega) (by omega)]
      (have fs := @i64.eq_1; (repeat (first | refine hGx _ ?_ | refine hNx _ ?_ | refine W_skip ?_ | refine W_exit ?_ | refine W_ret ?_ | refine W_label ?_ | refine W_scope ?_ | refine W_block ?_ | refine W_seq ?_ | ((first | refine tS fun N hNx => ?_ | refine WL_gE rfl rfl (by kernel_rfl) (by kernel_rfl) fun G hGx => ?_ | refine vcOpsS_sound (by kernel_rfl) ?_ | refine W_ifE fun A B hAx hBx => ?_); refine evT ?_; (first | refine hGx _ ?_ | refine hNx _ ?_ | refine hAx ?_ | refine hBx ?_ | skip)))); (try clear fs))
      (first | (show Q .ret _) | (show Q .normal _) | skip); refine hret _ _ (by first | exact .inr rfl | exact .inl rfl) (by first | rfl | assumption | (simp only [put_df, withH_df]; assumption)) ?_; have fs := hdf; refine evT ?_; clear fs
      exact ⟨_, Heap.le_refl _⟩
  have q1 : ((i : Int) < (k : Int)) = True := eq_true (by omega)
  (have fs := And.intro f14 (And.intro f15 (And.intro @i64.eq_1 q1)); (repeat (first | refine hGx _ ?_ | refine hNx _ ?_ | refine W_skip ?_ | refine W_exit ?_ | refine W_ret ?_ | refine W_label ?_ | refine W_scope ?_ | refine W_block ?_ | refine W_seq ?_ | ((first | refine tS fun N hNx => ?_ | refine WL_gE rfl rfl (by kernel_rfl) (by kernel_rfl) fun G hGx => ?_ | refine vcOpsS_sound (by kernel_rfl) ?_ | refine W_ifE fun A B hAx hBx => ?_); refine evT ?_; (first | refine hGx _ ?_ | refine hNx _ ?_ | refine hAx ?_ | refine hBx ?_ | skip)))); (try clear fs))
  intro b8 hb8
  have hcb : c1 ≠ b8 := Heap.ne_of hHc hb8
  refine hNx _ ?_
  have w3 : IntKind.i64.wrap ((i : Int) + 1) = ((i + 1 : Nat) : Int) := by rw [wrap_i64_of (by omega)]; omega
  cases t with
  | true =>
    (have fs := And.intro f1 @i64.eq_1; (repeat (first | refine hGx _ ?_ | refine hNx _ ?_ | refine W_skip ?_ | refine W_exit ?_ | refine W_ret ?_ | refine W_label ?_ | refine W_scope ?_ | refine W_block ?_ | refine W_seq ?_ | ((first | refine tS fun N hNx => ?_ | refine WL_gE rfl rfl (by kernel_rfl) (by kernel_rfl) fun G hGx => ?_ | refine vcOpsS_sound (by kernel_rfl) ?_ | refine W_ifE fun A B hAx hBx => ?_); refine evT ?_; (first | refine hGx _ ?_ | refine hNx _ ?_ | refine hAx ?_ | refine hBx ?_ | skip)))); (try clear fs))
    have hcu : ∀ x, (s.H.upd b8 x) c1 = some (.row 51 o1 5 (neDs true (i + 1))) := fun x => (Heap.upd_ne hcb).trans hHc
    have hgl : ∀ x, Gl Heap.none 51 5 (neDs true (i + 1)) (s.fr 6) (s.H.upd b8 x) (some c1) := fun x => .inr ⟨c1, o1, rfl, by rw [neDs_len]; exact f6, rfl, hcu x⟩
    refine apV_grow (e := 51) ty24 rfl ty24 rfl ty51 rfl (by decide) (Heap.le_none _) (hgl _) (new := [neD true (i + 1)]) (by unfold neD; rw [if_neg (by omega)]; exact ⟨rfl, rfl⟩) (by rw [neDs_len]; show (_ + 1) * _ ≤ _; omega) fun d H6 ob6 hg6 hle6 _ => ?_
    rw [neDs_succ] at hg6
    have hg7 : ∃ c o, d = .os c o 5 0 (i + 1 + 1) ∧ H6 c = some (.row 51 o 5 (neDs true (i + 1 + 1))) := by
      rcases hg6 with ⟨_, _, h⟩ | ⟨c, o, _, h1, _, h3⟩
      · have := congrArg List.length h; rw [neDs_len] at this; simp at this
      · exact ⟨c, o, by rw [h1, neDs_len], h3⟩
    (have fs := And.intro f15 (And.intro @i64.eq_1 w3); (repeat (first | refine hGx _ ?_ | refine hNx _ ?_ | refine W_skip ?_ | refine W_exit ?_ | refine W_ret ?_ | refine W_label ?_ | refine W_scope ?_ | refine W_block ?_ | refine W_seq ?_ | ((first | refine tS fun N hNx => ?_ | refine WL_gE rfl rfl (by kernel_rfl) (by kernel_rfl) fun G hGx => ?_ | refine vcOpsS_sound (by kernel_rfl) ?_ | refine W_ifE fun A B hAx hBx => ?_); refine evT ?_; (first | refine hGx _ ?_ | refine hNx _ ?_ | refine hAx ?_ | refine hBx ?_ | skip)))); (try clear fs))
    exact ⟨hil, hdf, f1, f5, f14, rfl, hg7⟩
  | false =>
    (have fs := And.intro f1 @i64.eq_1; (repeat (first | refine hGx _ ?_ | refine hNx _ ?_ | refine W_skip ?_ | refine W_exit ?_ | refine W_ret ?_ | refine W_label ?_ | refine W_scope ?_ | refine W_block ?_ | refine W_seq ?_ | ((first | refine tS fun N hNx => ?_ | refine WL_gE rfl rfl (by kernel_rfl) (by kernel_rfl) fun G hGx => ?_ | refine vcOpsS_sound (by kernel_rfl) ?_ | refine W_ifE fun A B hAx hBx => ?_); refine evT ?_; (first | refine hGx _ ?_ | refine hNx _ ?_ | refine hAx ?_ | refine hBx ?_ | skip)))); (try clear fs))
    have hcu : ∀ x, (s.H.upd b8 x) c1 = some (.row 51 o1 5 (neDs false (i + 1))) := fun x => (Heap.upd_ne hcb).trans hHc
    have hgl : ∀ x, Gl Heap.none 51 5 (neDs false (i + 1)) (s.fr 6) (s.H.upd b8 x) (some c1) := fun x => .inr ⟨c1, o1, rfl, by rw [neDs_len]; exact f6, rfl, hcu x⟩
    refine apV_grow (e := 51) ty24 rfl ty24 rfl ty51 rfl (by decide) (Heap.le_none _) (hgl _) (new := [neD false (i + 1)]) (by unfold neD; rw [if_neg (by omega)]; exact ⟨rfl, rfl⟩) (by rw [neDs_len]; show (_ + 1) * _ ≤ _; omega) fun d H6 ob6 hg6 hle6 _ => ?_
    rw [neDs_succ] at hg6
    have hg7 : ∃ c o, d = .os c o 5 0 (i + 1 + 1) ∧ H6 c = some (.row 51 o 5 (neDs false (i + 1 + 1))) := by
      rcases hg6 with ⟨_, _, h⟩ | ⟨c, o, _, h1, _, h3⟩
      · have := congrArg List.length h; rw [neDs_len] at this; simp at this
      · exact ⟨c, o, by rw [h1, neDs_len], h3⟩
    (have fs := And.intro f15 (And.intro @i64.eq_1 w3); (repeat (first | refine hGx _ ?_ | refine hNx _ ?_ | refine W_skip ?_ | refine W_exit ?_ | refine W_ret ?_ | refine W_label ?_ | refine W_scope ?_ | refine W_block ?_ | refine W_seq ?_ | ((first | refine tS fun N hNx => ?_ | refine WL_gE rfl rfl (by kernel_rfl) (by kernel_rfl) fun G hGx => ?_ | refine vcOpsS_sound (by kernel_rfl) ?_ | refine W_ifE fun A B hAx hBx => ?_); refine evT ?_; (first | refine hGx _ ?_ | refine hNx _ ?_ | refine hAx ?_ | refine hBx ?_ | skip)))); (try clear fs))
    exact ⟨hil, hdf, f1, f5, f14, rfl, hg7⟩
theorem TypesNests_walk (x0 : X) (v0 : Value) (x1 : X) (v1 : Value) (w : World) (o0 : DT.ok (DT.int .u8) x0) (i0 : D.is w Heap.none.others x0.d v0) (o1 : DT.ok (DT.bool) x1) (i1 : D.is w Heap.none.others x1.d v1) :
    Calls Try.prog 13 #[v0, v1] w fun e w' => e = .returned (.bool true) ∧ Below w.heap.size w w' := by
  obtain ⟨u, rfl⟩ := ok_u8 o0
  obtain ⟨t, rfl⟩ := ok_bool o1
  exact walk_of (lnests_N u t) ⟨_, _, rfl, i0, _, _, rfl, i1, rfl⟩
end Go.Proofs.Ytbcghjcakincoaa
