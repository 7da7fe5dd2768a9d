/- Lemmas and contracts of functions, several texts in one: U9 UA. -/
import Derived.Test.YtbcghjcakincoaaGX8
import Derived.Test.YtbcghjcakincoaaGYC
import Derived.Test.YtbcghjcakincoaaGIB
/- types: what a type consists of. -/
namespace Go.Proofs.Ytbcghjcakincoaa
open Go.RowKit
set_option linter.unusedVariables false
set_option maxRecDepth 100000
set_option linter.unusedSimpArgs false
theorem nodup_nat : ∀ (N : Nat) (S : List Nat), S.Nodup → (∀ x ∈ S, x < N) → S.length ≤ N
  | 0, S, _, h => by
    cases S with
    | nil => simp
    | cons x S => exact absurd (h x (by simp)) (by omega)
  | N + 1, S, hn, h => by
    by_cases hm : N ∈ S
    · have h1 := nodup_nat N (S.erase N) (hn.erase N) fun x hx => by
        have h2 := (hn.mem_erase_iff).1 hx
        have := h x h2.2
        omega
      rw [List.length_erase_of_mem hm] at h1
      omega
    · have := nodup_nat N S hn fun x hx => by
        have := h x hx
        have : x ≠ N := fun e => hm (e ▸ hx)
        omega
      omega
theorem nodup_le {n : Int} {S : List Int} (hn : S.Nodup) (h : ∀ x ∈ S, InR n x) : S.length ≤ n.toNat := by
  have := nodup_nat n.toNat (S.map Int.toNat) (by
    rw [List.nodup_iff_pairwise_ne, List.pairwise_map]
    rw [List.nodup_iff_pairwise_ne] at hn
    refine List.Pairwise.imp_of_mem ?_ hn
    intro a b ha hb hab e
    have h1 := h a ha
    have h2 := h b hb
    unfold InR at h1 h2
    exact hab (by omega)) (fun x hx => by
      obtain ⟨y, hy, rfl⟩ := List.mem_map.1 hx
      have := h y hy
      unfold InR at this
      omega)
  simpa using this

/-- A set of numbers as a map. -/
def SV (S : List Int) : List (Value × Value) := S.map fun k => (.int .i64 k, .bool true)
def SM (S : List Int) : List (Value × D) := (SV S).map fun p => (p.1, .val p.2)
theorem SM_cons (a : Int) (S : List Int) : SM (a :: S) = (.int .i64 a, .val (.bool true)) :: SM S := rfl
theorem SM_app (S T : List Int) : SM (S ++ T) = SM S ++ SM T := by unfold SM SV; rw [List.map_append, List.map_append]
theorem SM_in {S : List Int} {x : Int} : x ∈ S → mget (SM S) (.int .i64 x) = some (.val (.bool true)) := by
  induction S with
  | nil => intro h; cases h
  | cons a S ih =>
    intro h
    rw [SM_cons]
    by_cases e : a = x
    · subst e; simp [mget]
    · have h2 : x ∈ S := by rcases List.mem_cons.1 h with h | h; exact absurd h.symm e; exact h
      simp only [mget]
      rw [if_neg (by simpa using e)]
      exact ih h2
theorem SM_out {S : List Int} {x : Int} : x ∉ S → mget (SM S) (.int .i64 x) = none := by
  induction S with
  | nil => intro _; rfl
  | cons a S ih =>
    intro h
    rw [SM_cons]
    have e : ¬ a = x := fun e => h (by simp [e])
    simp only [mget]
    rw [if_neg (by simpa using e)]
    exact ih fun h2 => h (List.mem_cons_of_mem _ h2)
theorem SM_set {S : List Int} {x : Int} : x ∉ S → mset (SM S) (.int .i64 x) (.val (.bool true)) = SM (S ++ [x]) := by
  induction S with
  | nil => intro _; rfl
  | cons a S ih =>
    intro h
    rw [List.cons_append, SM_cons, SM_cons]
    have e : ¬ a = x := fun e => h (by simp [e])
    simp only [mset]
    rw [if_neg (by simpa using e), ih fun h2 => h (List.mem_cons_of_mem _ h2)]
theorem SM_ok {S : List Int} {n : Int} (hn : n ≤ 1000000) (h : ∀ x ∈ S, InR n x) {x : Int} (hx : I64' x) : kOK Try.prog 3 (SM S) (.int .i64 x) :=
  ⟨Go.Maps.int_keyed Try.underlying3, keyOf_i64 Try.underlying3 hx, fun p hp => by
    unfold SM SV at hp
    rw [List.map_map, List.mem_map] at hp
    obtain ⟨y, hy, rfl⟩ := hp
    have := h y hy
    exact keyOf_i64 Try.underlying3 (by unfold InR at this; omega)⟩
set_option maxHeartbeats 1000000 in
theorem rea1_N (ts : List TyS) (bm bf : Nat) (hw : wfT ts) (htl : ts.length ≤ 1000000) (har : ∀ t ∈ ts, t.ar.length ≤ 140737488351232) (hbmf : bm ≠ bf) :
    ∀ (kk : Nat) (a : Int) (S : List Int) (H : Heap), InR ts.length a → a < kk → H bf = some (.row 141 0 1 [[.fn 106 [.rp [.val (.map (some bm))], .rp [.seq 5 (ts.map tyD)], .ep bf 0 1 0 0]]]) → H bm = some (.map (SM S)) → S.Nodup → (∀ x ∈ S, InR ts.length x) → (∀ k ∈ S, k ≤ a → ∀ b, Rch parA ts k b → b ∈ S) →
      Does Try.prog 106 [i64 a, .rp [.val (.map (some bm))], .rp [.seq 5 (ts.map tyD)], .ep bf 0 1 0 0] H fun _ H' => ∃ S', H' = H.upd bm (.map (SM S')) ∧ S'.Nodup ∧ (∀ x ∈ S', InR ts.length x) ∧ ∀ x, x ∈ S' ↔ x ∈ S ∨ Rch parA ts a x := by
  intro kk
  induction kk using Nat.strongRecOn with
  | ind kk ih =>
    intro a S H ha hak hHf hHm hSn hSi hSc
    have htyl : (List.map tyD ts).length = ts.length := List.length_map _
    have ha64 : I64' a := by unfold InR at ha; unfold I64'; omega
    have hkk := SM_ok (by omega) hSi ha64
    refine does_of _ _ Try.func106 rfl rfl Try.ntmps106 Try.results106 (by simp only [List.length_cons, List.length_nil]; omega) fun w0 Q hret => ?_
    by_cases hin : a ∈ S
    · have hmg := SM_in hin
      (have fs := And.intro @i64.eq_1 (And.intro hHm hmg); (repeat (first | refine hGx _ ?_ | refine hNx _ ?_ | refine W_skip ?_ | refine W_exit ?_ | refine W_ret ?_ | refine W_label ?_ | refine W_scope ?_ | refine W_block ?_ | refine W_seq ?_ | ((first | refine tS fun N hNx => ?_ | refine WL_gE rfl rfl (by kernel_rfl) (by kernel_rfl) fun G hGx => ?_ | refine vcOpsS_sound (by kernel_rfl) ?_ | refine W_ifE fun A B hAx hBx => ?_); refine evT ?_; (first | refine hGx _ ?_ | refine hNx _ ?_ | refine hAx ?_ | refine hBx ?_ | skip)))); (try clear fs))
      refine ⟨hkk, ?_⟩
      (have fs := @i64.eq_1; (repeat (first | refine hGx _ ?_ | refine hNx _ ?_ | refine W_skip ?_ | refine W_exit ?_ | refine W_ret ?_ | refine W_label ?_ | refine W_scope ?_ | refine W_block ?_ | refine W_seq ?_ | ((first | refine tS fun N hNx => ?_ | refine WL_gE rfl rfl (by kernel_rfl) (by kernel_rfl) fun G hGx => ?_ | refine vcOpsS_sound (by kernel_rfl) ?_ | refine W_ifE fun A B hAx hBx => ?_); refine evT ?_; (first | refine hGx _ ?_ | refine hNx _ ?_ | refine hAx ?_ | refine hBx ?_ | skip)))); (try clear fs))
      (first | (show Q .ret _) | (show Q .normal _) | skip); refine hret _ _ (by first | exact .inr rfl | exact .inl rfl) (by first | rfl | assumption | (simp only [put_df, withH_df]; assumption)) ?_; have fs := @i64.eq_1; refine evT ?_; clear fs
      exact ⟨_, Heap.le_refl _, S, (upd_self hHm).symm, hSn, hSi, fun x => ⟨.inl, fun h => h.elim id fun h => hSc a hin (Int.le_refl _) x h⟩⟩
    have hmg := SM_out hin
    have hset := SM_set hin
    (have fs := And.intro @i64.eq_1 (And.intro hHm hmg); (repeat (first | refine hGx _ ?_ | refine hNx _ ?_ | refine W_skip ?_ | refine W_exit ?_ | refine W_ret ?_ | refine W_label ?_ | refine W_scope ?_ | refine W_block ?_ | refine W_seq ?_ | ((first | refine tS fun N hNx => ?_ | refine WL_gE rfl rfl (by kernel_rfl) (by kernel_rfl) fun G hGx => ?_ | refine vcOpsS_sound (by kernel_rfl) ?_ | refine W_ifE fun A B hAx hBx => ?_); refine evT ?_; (first | refine hGx _ ?_ | refine hNx _ ?_ | refine hAx ?_ | refine hBx ?_ | skip)))); (try clear fs))
    refine ⟨hkk, ?_⟩
    have hga := ty_get ha
    have hiff := fun b => Rch.iff (par := parA) (ts := ts) (a := a) (b := b)
    have hdn := Dn.A hw a ha
    have hara : (tyAt ts a).ar.length ≤ 140737488351232 := har _ (tyAt_in ha)
    have hpl : (parA (tyAt ts a)).length ≤ 140737488351232 := by unfold parA; split <;> first | exact hara | simp
    have hcp := parts_N (tyAt ts a)
    obtain ⟨t, ht⟩ : ∃ t, t = tyAt ts a := ⟨_, rfl⟩
    rw [← ht] at hga hdn hara hcp hpl
    simp only [← ht] at hiff
    obtain ⟨pa, hpa⟩ : ∃ pa, pa = parA t := ⟨_, rfl⟩
    rw [← hpa] at hdn hcp hpl
    simp only [← hpa] at hiff
    obtain ⟨tk, tm, tr, te, ta⟩ := t
    simp only [tyD] at hga hcp
    have h0a : 0 ≤ a := ha.1
    have hal : a.toNat < ts.length := by unfold InR at ha; omega
    have hal' : a < (ts.length : Int) := ha.2
    have hpll : (List.map iD pa).length = pa.length := List.length_map _
    (have fs := And.intro @i64.eq_1 (And.intro hHm hmg); (repeat (first | refine hGx _ ?_ | refine hNx _ ?_ | refine W_skip ?_ | refine W_exit ?_ | refine W_ret ?_ | refine W_label ?_ | refine W_scope ?_ | refine W_block ?_ | refine W_seq ?_ | ((first | refine tS fun N hNx => ?_ | refine WL_gE rfl rfl (by kernel_rfl) (by kernel_rfl) fun G hGx => ?_ | refine vcOpsS_sound (by kernel_rfl) ?_ | refine W_ifE fun A B hAx hBx => ?_); refine evT ?_; (first | refine hGx _ ?_ | refine hNx _ ?_ | refine hAx ?_ | refine hBx ?_ | skip)))); (try clear fs))
    refine ⟨hkk, ?_⟩
    rw [hset]
    (have fs := And.intro @i64.eq_1 (And.intro hga (And.intro h0a (And.intro hal (And.intro hal' htyl)))); (repeat (first | refine hGx _ ?_ | refine hNx _ ?_ | refine W_skip ?_ | refine W_exit ?_ | refine W_ret ?_ | refine W_label ?_ | refine W_scope ?_ | refine W_block ?_ | refine W_seq ?_ | ((first | refine tS fun N hNx => ?_ | refine WL_gE rfl rfl (by kernel_rfl) (by kernel_rfl) fun G hGx => ?_ | refine vcOpsS_sound (by kernel_rfl) ?_ | refine W_ifE fun A B hAx hBx => ?_); refine evT ?_; (first | refine hGx _ ?_ | refine hNx _ ?_ | refine hAx ?_ | refine hBx ?_ | skip)))); (try clear fs))
    refine (hcp _).mono ?_
    rintro d _ ⟨rfl, rfl⟩
    (have fs := And.intro @i64.eq_1 hpll; (repeat (first | refine hGx _ ?_ | refine hNx _ ?_ | refine W_skip ?_ | refine W_exit ?_ | refine W_ret ?_ | refine W_label ?_ | refine W_scope ?_ | refine W_block ?_ | refine W_seq ?_ | ((first | refine tS fun N hNx => ?_ | refine WL_gE rfl rfl (by kernel_rfl) (by kernel_rfl) fun G hGx => ?_ | refine vcOpsS_sound (by kernel_rfl) ?_ | refine W_ifE fun A B hAx hBx => ?_); refine evT ?_; (first | refine hGx _ ?_ | refine hNx _ ?_ | refine hAx ?_ | refine hBx ?_ | skip)))); (try clear fs))
    refine W_loopN pa.length (fun j s => s.df = [] ∧ s.fr 0 = i64 a ∧ s.fr 1 = .rp [.val (.map (some bm))] ∧ s.fr 2 = .rp [.seq 5 (ts.map tyD)] ∧ s.fr 3 = .ep bf 0 1 0 0 ∧ s.fr 16 = .seq 1 (pa.map iD) ∧ s.fr 17 = i64 pa.length ∧ s.fr 18 = i64 j ∧ ∃ S', s.H = H.upd bm (.map (SM S')) ∧ S'.Nodup ∧ (∀ x ∈ S', InR ts.length x) ∧ ∀ x, x ∈ S' ↔ x ∈ S ∨ x = a ∨ ∃ p ∈ pa.take j, Rch parA ts p x) ⟨rfl, rfl, rfl, rfl, rfl, rfl, rfl, rfl, S ++ [a], rfl, ?_, ?_, ?_⟩ ?_
    · rw [List.nodup_append]
      exact ⟨hSn, by simp, fun x hx y hy e => by rw [List.mem_singleton] at hy; subst hy; subst e; exact hin hx⟩
    · intro x hx
      rcases List.mem_append.1 hx with hx | hx
      · exact hSi x hx
      · rw [List.mem_singleton] at hx; rw [hx]; exact ha
    · intro x
      rw [List.mem_append, List.mem_singleton]
      constructor
      · rintro (h | h)
        · exact .inl h
        · exact .inr (.inl h)
      · rintro (h | h | ⟨p, hp, _⟩)
        · exact .inl h
        · exact .inr h
        · simp at hp
    rintro j s hj ⟨hdf, f0, f1, f2, f3, f16, f17, f18, S2, hH2, hn2, hi2, hm2⟩
    have hHm2 : s.H bm = some (.map (SM S2)) := by rw [hH2]; exact Heap.upd_same _ _ _
    have hHf2 : s.H bf = some (.row 141 0 1 [[.fn 106 [.rp [.val (.map (some bm))], .rp [.seq 5 (ts.map tyD)], .ep bf 0 1 0 0]]]) := by rw [hH2]; exact (Heap.upd_ne hbmf.symm).trans hHf
    have hx : (j : Int).toNat = j := Int.toNat_natCast _
    have h00 : (0 : Int) ≤ (j : Int) := Int.natCast_nonneg _
    by_cases hjl : j < pa.length
    case neg =>
      have q1 : ((j : Int) < (pa.length : Int)) = False := eq_false (by omega)
      rw [List.take_of_length_le (by omega)] at hm2
      (have fs := And.intro f17 (And.intro f18 (And.intro @i64.eq_1 q1)); (repeat (first | refine hGx _ ?_ | refine hNx _ ?_ | refine W_skip ?_ | refine W_exit ?_ | refine W_ret ?_ | refine W_label ?_ | refine W_scope ?_ | refine W_block ?_ | refine W_seq ?_ | ((first | refine tS fun N hNx => ?_ | refine WL_gE rfl rfl (by kernel_rfl) (by kernel_rfl) fun G hGx => ?_ | refine vcOpsS_sound (by kernel_rfl) ?_ | refine W_ifE fun A B hAx hBx => ?_); refine evT ?_; (first | refine hGx _ ?_ | refine hNx _ ?_ | refine hAx ?_ | refine hBx ?_ | skip)))); (try clear fs))
      (first | (show Q .ret _) | (show Q .normal _) | skip); refine hret _ _ (by first | exact .inr rfl | exact .inl rfl) (by first | rfl | assumption | (simp only [put_df, withH_df]; assumption)) ?_; have fs := hdf; refine evT ?_; clear fs
      refine ⟨_, Heap.le_refl _, S2, hH2, hn2, hi2, fun x => ?_⟩
      rw [hm2 x, hiff x]
      constructor
      · rintro (h | h | h)
        · exact .inl h
        · exact .inr (.inl h.symm)
        · exact .inr (.inr h)
      · rintro (h | h | h)
        · exact .inl h
        · exact .inr (.inl h.symm)
        · exact .inr (.inr h)
    have q1 : ((j : Int) < (pa.length : Int)) = True := eq_true (by omega)
    have w3 : IntKind.i64.wrap ((j : Int) + 1) = ((j + 1 : Nat) : Int) := by rw [wrap_i64_of (by omega)]; omega
    have hgi := get_ints hjl
    have hdj := hdn pa[j] (List.getElem_mem hjl)
    have htk := List.take_succ_eq_append_getElem hjl
    obtain ⟨f, hf⟩ : ∃ f, f = pa[j] := ⟨_, rfl⟩
    rw [← hf] at hgi hdj htk
    (have fs := And.intro f3 (And.intro f16 (And.intro f17 (And.intro f18 (And.intro @i64.eq_1 (And.intro q1 (And.intro hgi (And.intro hx (And.intro h00 (And.intro hjl (And.intro hpll hHf2)))))))))); (repeat (first | refine hGx _ ?_ | refine hNx _ ?_ | refine W_skip ?_ | refine W_exit ?_ | refine W_ret ?_ | refine W_label ?_ | refine W_scope ?_ | refine W_block ?_ | refine W_seq ?_ | ((first | refine tS fun N hNx => ?_ | refine WL_gE rfl rfl (by kernel_rfl) (by kernel_rfl) fun G hGx => ?_ | refine vcOpsS_sound (by kernel_rfl) ?_ | refine W_ifE fun A B hAx hBx => ?_); refine evT ?_; (first | refine hGx _ ?_ | refine hNx _ ?_ | refine hAx ?_ | refine hBx ?_ | skip)))); (try clear fs))
    refine (ih (kk - 1) (by omega) f S2 _ ⟨hdj.1, by omega⟩ (by omega) hHf2 hHm2 hn2 hi2 ?_).mono ?_
    · intro k hk hkf b hb
      rw [hm2] at hk ⊢
      rcases hk with hk | rfl | ⟨p, hp, hk⟩
      · exact .inl (hSc k hk (by omega) b hb)
      · omega
      · exact .inr (.inr ⟨p, hp, hk.trans hb⟩)
    rintro d _ ⟨S3, rfl, hn3, hi3, hm3⟩
    (have fs := And.intro f18 (And.intro @i64.eq_1 w3); (repeat (first | refine hGx _ ?_ | refine hNx _ ?_ | refine W_skip ?_ | refine W_exit ?_ | refine W_ret ?_ | refine W_label ?_ | refine W_scope ?_ | refine W_block ?_ | refine W_seq ?_ | ((first | refine tS fun N hNx => ?_ | refine WL_gE rfl rfl (by kernel_rfl) (by kernel_rfl) fun G hGx => ?_ | refine vcOpsS_sound (by kernel_rfl) ?_ | refine W_ifE fun A B hAx hBx => ?_); refine evT ?_; (first | refine hGx _ ?_ | refine hNx _ ?_ | refine hAx ?_ | refine hBx ?_ | skip)))); (try clear fs))
    refine ⟨hjl, hdf, f0, f1, f2, f3, f16, f17, rfl, S3, by show s.H.upd bm _ = _; rw [hH2]; exact upd_upd _ _ _ _, hn3, hi3, fun x => ?_⟩
    rw [hm3 x, hm2 x, htk]
    simp only [List.mem_append, List.mem_singleton]
    constructor
    · rintro ((h | h | ⟨p, hp, h⟩) | h)
      · exact .inl h
      · exact .inr (.inl h)
      · exact .inr (.inr ⟨p, .inl hp, h⟩)
      · exact .inr (.inr ⟨f, .inr rfl, h⟩)
    · rintro (h | h | ⟨p, hp | rfl, h⟩)
      · exact .inl (.inl h)
      · exact .inl (.inr (.inl h))
      · exact .inl (.inr (.inr ⟨p, hp, h⟩))
      · exact .inr h
set_option maxHeartbeats 1000000 in
theorem rea_N (ts : List TyS) (a : Int) (H : Heap) (hw : wfT ts) (htl : ts.length ≤ 1000000) (har : ∀ t ∈ ts, t.ar.length ≤ 140737488351232) :
    Does Try.prog 84 [.seq 5 (ts.map tyD), i64 a] H fun d H' => ∃ bm S, d = .val (.map (some bm)) ∧ H bm = none ∧ H' bm = some (.map (SM S)) ∧ H.le H' ∧ S.Nodup ∧ (∀ x ∈ S, InR ts.length x) ∧ ∀ x, x ∈ S ↔ InR ts.length a ∧ Rch parA ts a x := by
  have htyl : (List.map tyD ts).length = ts.length := List.length_map _
  have hle := Heap.le_refl H
  refine does_of _ _ Try.func84 rfl rfl Try.ntmps84 Try.results84 (by simp only [List.length_cons, List.length_nil]; omega) fun w0 Q hret => ?_
  (have fs := @i64.eq_1; (repeat (first | refine hGx _ ?_ | refine hNx _ ?_ | refine W_skip ?_ | refine W_exit ?_ | refine W_ret ?_ | refine W_label ?_ | refine W_scope ?_ | refine W_block ?_ | refine W_seq ?_ | ((first | refine tS fun N hNx => ?_ | refine WL_gE rfl rfl (by kernel_rfl) (by kernel_rfl) fun G hGx => ?_ | refine vcOpsS_sound (by kernel_rfl) ?_ | refine W_ifE fun A B hAx hBx => ?_); refine evT ?_; (first | refine hGx _ ?_ | refine hNx _ ?_ | refine hAx ?_ | refine hBx ?_ | skip)))); (try clear fs))
  intro c2 hc2
  refine hNx _ ?_
  refine W_frzp 2 rfl (Heap.upd_same _ _ _) rfl ?_; simp only [St.frzp, put_H, wdf_H, withH_H, withH_put, wdf_withH, withH_withH, init_H, init_withH, Heap.del_upd_same, Heap.del_none hc2, withH_self]
  (have fs := And.intro @i64.eq_1 htyl; (repeat (first | refine hGx _ ?_ | refine hNx _ ?_ | refine W_skip ?_ | refine W_exit ?_ | refine W_ret ?_ | refine W_label ?_ | refine W_scope ?_ | refine W_block ?_ | refine W_seq ?_ | ((first | refine tS fun N hNx => ?_ | refine WL_gE rfl rfl (by kernel_rfl) (by kernel_rfl) fun G hGx => ?_ | refine vcOpsS_sound (by kernel_rfl) ?_ | refine W_ifE fun A B hAx hBx => ?_); refine evT ?_; (first | refine hGx _ ?_ | refine hNx _ ?_ | refine hAx ?_ | refine hBx ?_ | skip)))); (try clear fs))
  intro bm hbm b5 hb5
  have hb50 : (H.upd bm (.map [])) b5 = none := hb5
  refine hNx _ ?_
  refine W_frzp 5 rfl (Heap.upd_same _ _ _) rfl ?_
  refine W_less (H.upd bm (.map [])) (fun x z hz => ?_) ?_
  · have e1 : x ≠ b5 := fun e => by rw [e, hb50] at hz; cases hz
    show (((H.upd bm _).upd b5 _).del b5) x = _
    rw [Heap.del_ne e1, Heap.upd_ne e1]
    exact hz
  simp only [St.frzp, List.drop]
  (have fs := @i64.eq_1; (repeat (first | refine hGx _ ?_ | refine hNx _ ?_ | refine W_skip ?_ | refine W_exit ?_ | refine W_ret ?_ | refine W_label ?_ | refine W_scope ?_ | refine W_block ?_ | refine W_seq ?_ | ((first | refine tS fun N hNx => ?_ | refine WL_gE rfl rfl (by kernel_rfl) (by kernel_rfl) fun G hGx => ?_ | refine vcOpsS_sound (by kernel_rfl) ?_ | refine W_ifE fun A B hAx hBx => ?_); refine evT ?_; (first | refine hGx _ ?_ | refine hNx _ ?_ | refine hAx ?_ | refine hBx ?_ | skip)))); (try clear fs))
  intro bf hbf
  (have fs := @i64.eq_1; (iterate 4 (first | refine hGx _ ?_ | refine hNx _ ?_ | refine W_skip ?_ | refine W_exit ?_ | refine W_ret ?_ | refine W_label ?_ | refine W_scope ?_ | refine W_block ?_ | refine W_seq ?_ | ((first | refine tS fun N hNx => ?_ | refine WL_gE rfl rfl (by kernel_rfl) (by kernel_rfl) fun G hGx => ?_ | refine vcOpsS_sound (by kernel_rfl) ?_ | refine W_ifE fun A B hAx hBx => ?_); refine evT ?_; (first | refine hGx _ ?_ | refine hNx _ ?_ | refine hAx ?_ | refine hBx ?_ | skip)))); (try clear fs))
  have hbmf : bm ≠ bf := Heap.ne_of (Heap.upd_same _ _ _) hbf
  have hbf0 : H bf = none := (Heap.upd_none.1 hbf).2
  by_cases h1 : 0 ≤ a
  case neg =>
    have q1 : (0 ≤ a) = False := eq_false h1
    (have fs := And.intro @i64.eq_1 q1; (repeat (first | refine hGx _ ?_ | refine hNx _ ?_ | refine W_skip ?_ | refine W_exit ?_ | refine W_ret ?_ | refine W_label ?_ | refine W_scope ?_ | refine W_block ?_ | refine W_seq ?_ | ((first | refine tS fun N hNx => ?_ | refine WL_gE rfl rfl (by kernel_rfl) (by kernel_rfl) fun G hGx => ?_ | refine vcOpsS_sound (by kernel_rfl) ?_ | refine W_ifE fun A B hAx hBx => ?_); refine evT ?_; (first | refine hGx _ ?_ | refine hNx _ ?_ | refine hAx ?_ | refine hBx ?_ | skip)))); (try clear fs))
    (first | (show Q .ret _) | (show Q .normal _) | skip); refine hret _ _ (by first | exact .inr rfl | exact .inl rfl) (by first | rfl | assumption | (simp only [put_df, withH_df]; assumption)) ?_; have fs := @i64.eq_1; refine evT ?_; clear fs
    exact ⟨_, Heap.le_refl _, bm, [], rfl, hbm, (Heap.upd_ne hbmf).trans (Heap.upd_same _ _ _), Heap.le_put (Heap.le_put (Heap.le_refl _) hbm) hbf0, by simp, by simp, fun x => ⟨fun h => (by cases h), fun h => absurd h.1.1 h1⟩⟩
  have q1 : (0 ≤ a) = True := eq_true h1
  by_cases h2 : a < ts.length
  case neg =>
    have q2 : (a < (ts.length : Int)) = False := eq_false h2
    (have fs := And.intro @i64.eq_1 (And.intro q1 (And.intro q2 htyl)); (repeat (first | refine hGx _ ?_ | refine hNx _ ?_ | refine W_skip ?_ | refine W_exit ?_ | refine W_ret ?_ | refine W_label ?_ | refine W_scope ?_ | refine W_block ?_ | refine W_seq ?_ | ((first | refine tS fun N hNx => ?_ | refine WL_gE rfl rfl (by kernel_rfl) (by kernel_rfl) fun G hGx => ?_ | refine vcOpsS_sound (by kernel_rfl) ?_ | refine W_ifE fun A B hAx hBx => ?_); refine evT ?_; (first | refine hGx _ ?_ | refine hNx _ ?_ | refine hAx ?_ | refine hBx ?_ | skip)))); (try clear fs))
    (first | (show Q .ret _) | (show Q .normal _) | skip); refine hret _ _ (by first | exact .inr rfl | exact .inl rfl) (by first | rfl | assumption | (simp only [put_df, withH_df]; assumption)) ?_; have fs := @i64.eq_1; refine evT ?_; clear fs
    exact ⟨_, Heap.le_refl _, bm, [], rfl, hbm, (Heap.upd_ne hbmf).trans (Heap.upd_same _ _ _), Heap.le_put (Heap.le_put (Heap.le_refl _) hbm) hbf0, by simp, by simp, fun x => ⟨fun h => (by cases h), fun h => absurd h.1.2 h2⟩⟩
  have q2 : (a < (ts.length : Int)) = True := eq_true h2
  (have fs := And.intro @i64.eq_1 (And.intro q1 (And.intro q2 htyl)); (repeat (first | refine hGx _ ?_ | refine hNx _ ?_ | refine W_skip ?_ | refine W_exit ?_ | refine W_ret ?_ | refine W_label ?_ | refine W_scope ?_ | refine W_block ?_ | refine W_seq ?_ | ((first | refine tS fun N hNx => ?_ | refine WL_gE rfl rfl (by kernel_rfl) (by kernel_rfl) fun G hGx => ?_ | refine vcOpsS_sound (by kernel_rfl) ?_ | refine W_ifE fun A B hAx hBx => ?_); refine evT ?_; (first | refine hGx _ ?_ | refine hNx _ ?_ | refine hAx ?_ | refine hBx ?_ | skip)))); (try clear fs))
  refine (rea1_N ts bm bf hw htl har hbmf ts.length a [] _ ⟨by omega, by omega⟩ (by omega) (Heap.upd_same _ _ _) ((Heap.upd_ne hbmf).trans (Heap.upd_same _ _ _)) (by simp) (by simp) (by simp)).mono ?_
  rintro d _ ⟨S, rfl, hn, hi, hm⟩
  (have fs := @i64.eq_1; (repeat (first | refine hGx _ ?_ | refine hNx _ ?_ | refine W_skip ?_ | refine W_exit ?_ | refine W_ret ?_ | refine W_label ?_ | refine W_scope ?_ | refine W_block ?_ | refine W_seq ?_ | ((first | refine tS fun N hNx => ?_ | refine WL_gE rfl rfl (by kernel_rfl) (by kernel_rfl) fun G hGx => ?_ | refine vcOpsS_sound (by kernel_rfl) ?_ | refine W_ifE fun A B hAx hBx => ?_); refine evT ?_; (first | refine hGx _ ?_ | refine hNx _ ?_ | refine hAx ?_ | refine hBx ?_ | skip)))); (try clear fs))
  (first | (show Q .ret _) | (show Q .normal _) | skip); refine hret _ _ (by first | exact .inr rfl | exact .inl rfl) (by first | rfl | assumption | (simp only [put_df, withH_df]; assumption)) ?_; have fs := @i64.eq_1; refine evT ?_; clear fs
  refine ⟨_, Heap.le_refl _, bm, S, rfl, hbm, Heap.upd_same _ _ _, Heap.le_put (Heap.le_put (Heap.le_put (Heap.le_refl _) hbm) hbf0) hbm, hn, hi, fun x => ?_⟩
  rw [hm x]
  exact ⟨fun h => h.elim (fun h => by cases h) fun h => ⟨⟨h1, h2⟩, h⟩, fun h => .inr h.2⟩
end Go.Proofs.Ytbcghjcakincoaa
/- types.Regions. -/
namespace Go.Proofs.Ytbcghjcakincoaa
open Go.RowKit
set_option linter.unusedVariables false
set_option maxRecDepth 100000
set_option linter.unusedSimpArgs false
theorem sortI_mem {l : List Int} {x : Int} : x ∈ sortI l ↔ x ∈ l := List.mem_mergeSort
theorem sortI_le (l : List Int) : (sortI l).Pairwise (· ≤ ·) := by
  have h1 : (sortI l).Pairwise fun a b => decide (a ≤ b) = true := List.pairwise_mergeSort (fun a b c h1 h2 => by simp at *; omega) (fun a b => by simp; omega) l
  exact h1.imp fun {a b} h => by simpa using h
/-- Regions are below a bound. -/
def rbd (ts : List TyS) (n : Int) : Prop := ∀ t ∈ ts, t.k = 3 → 0 ≤ t.r ∧ t.r < n
theorem reg_fin {ts : List TyS} {a : Int} {S out : List Int} (hb : rbd ts 1000000) (hS : ∀ x, x ∈ S ↔ InR ts.length a ∧ Rch parA ts a x) (hi : ∀ x ∈ S, InR ts.length x) (ho : ∀ x, x ∈ out ↔ ∃ b ∈ S, (tyAt ts b).k = 3 ∧ (tyAt ts b).r = x) : cmpI (sortI out) = regL ts a := by
  refine strict_eq (cmpI_strict (sortI_le out)) (regL_strict ts a) fun x => ?_
  rw [cmpI_mem, sortI_mem, ho, regL_mem]
  constructor
  · rintro ⟨b, hb1, h3, hr⟩
    have h1 := (hS b).1 hb1
    have := hb _ (tyAt_in (hi b hb1)) h3
    exact ⟨⟨by omega, by omega⟩, h1.1, b, h1.2, h3, hr⟩
  · rintro ⟨_, h1, b, h2, h3, hr⟩
    exact ⟨b, (hS b).2 ⟨h1, h2⟩, h3, hr⟩
set_option maxHeartbeats 1000000 in
theorem regs_N (ts : List TyS) (a : Int) (H : Heap) (hw : wfT ts) (hb : rbd ts 1000000) (htl : ts.length ≤ 1000000) (har : ∀ t ∈ ts, t.ar.length ≤ 140737488351232) :
    Does Try.prog 43 [.seq 5 (ts.map tyD), i64 a] H fun d H' => d = .seq 1 ((regL ts a).map iD) ∧ H = H' := by
  refine Does.frz (K := fun d => d = .seq 1 ((regL ts a).map iD)) ?_
  have htyl : (List.map tyD ts).length = ts.length := List.length_map _
  refine does_of _ _ Try.func43 rfl rfl Try.ntmps43 Try.results43 (by simp only [List.length_cons, List.length_nil]; omega) fun w0 Q hret => ?_
  (have fs := @i64.eq_1; (repeat (first | refine hGx _ ?_ | refine hNx _ ?_ | refine W_skip ?_ | refine W_exit ?_ | refine W_ret ?_ | refine W_label ?_ | refine W_scope ?_ | refine W_block ?_ | refine W_seq ?_ | ((first | refine tS fun N hNx => ?_ | refine WL_gE rfl rfl (by kernel_rfl) (by kernel_rfl) fun G hGx => ?_ | refine vcOpsS_sound (by kernel_rfl) ?_ | refine W_ifE fun A B hAx hBx => ?_); refine evT ?_; (first | refine hGx _ ?_ | refine hNx _ ?_ | refine hAx ?_ | refine hBx ?_ | skip)))); (try clear fs))
  refine (rea_N ts a H hw htl har).mono ?_
  rintro d H1 ⟨bm, S, rfl, hbm, hH1, hle1, hSn, hSi, hSm⟩
  (have fs := @i64.eq_1; (repeat (first | refine hGx _ ?_ | refine hNx _ ?_ | refine W_skip ?_ | refine W_exit ?_ | refine W_ret ?_ | refine W_label ?_ | refine W_scope ?_ | refine W_block ?_ | refine W_seq ?_ | ((first | refine tS fun N hNx => ?_ | refine WL_gE rfl rfl (by kernel_rfl) (by kernel_rfl) fun G hGx => ?_ | refine vcOpsS_sound (by kernel_rfl) ?_ | refine W_ifE fun A B hAx hBx => ?_); refine evT ?_; (first | refine hGx _ ?_ | refine hNx _ ?_ | refine hAx ?_ | refine hBx ?_ | skip)))); (try clear fs))
  refine WO_range (SV S) rfl (show (10 : Nat) < 33 by decide) Try.underlying118 rfl hH1 ?_
  intro r H2 hr0 hrb hR2 hkeep
  have hle2 : H.le H2 := fun x z hz => by
    have h1 := hle1 x z hz
    rw [hkeep x (fun e => by rw [e, hbm] at hz; cases hz) (fun e => by rw [e] at h1; exact absurd (hr0.symm.trans h1) (by simp))]
    exact h1
  have hr00 : H r = none := by
    cases h : H r with
    | none => rfl
    | some z => exact absurd (hr0.symm.trans (hle1 r z h)) (by simp)
  refine hNx _ ?_
  (have fs := @i64.eq_1; (repeat (first | refine hGx _ ?_ | refine hNx _ ?_ | refine W_skip ?_ | refine W_exit ?_ | refine W_ret ?_ | refine W_label ?_ | refine W_scope ?_ | refine W_block ?_ | refine W_seq ?_ | ((first | refine tS fun N hNx => ?_ | refine WL_gE rfl rfl (by kernel_rfl) (by kernel_rfl) fun G hGx => ?_ | refine vcOpsS_sound (by kernel_rfl) ?_ | refine W_ifE fun A B hAx hBx => ?_); refine evT ?_; (first | refine hGx _ ?_ | refine hNx _ ?_ | refine hAx ?_ | refine hBx ?_ | skip)))); (try clear fs))
  refine W_loopM (fun k s => ∃ (todo dn out : List Int) (ob : Option Nat), k = todo.length ∧ s.df = [] ∧ s.fr 0 = .seq 5 (ts.map tyD) ∧ s.fr 10 = .val (.pointer (some ⟨r, 0, none⟩)) ∧ Rng s.H bm r (SV todo) ∧ H.le s.H ∧ Gl H 3 1 (out.map iD) (s.fr 5) s.H ob ∧ ob ≠ some bm ∧ ob ≠ some r ∧ (∀ x, x ∈ S ↔ x ∈ dn ∨ x ∈ todo) ∧ (∀ x, x ∈ out ↔ ∃ b ∈ dn, (tyAt ts b).k = 3 ∧ (tyAt ts b).r = x) ∧ out.length ≤ dn.length ∧ dn.length + todo.length = S.length) S.length ⟨S, [], [], none, rfl, rfl, rfl, rfl, hR2, hle2, Gl.nil _ _ _ _, by simp, by simp, by simp, by simp, by simp, by simp⟩ ?_
  rintro n s ⟨todo, dn, out, ob, rfl, hdf, f0, f10, hR, hle, hg, hob1, hob2, hdn, hout, hol, hdl⟩
  obtain ⟨d5, hd5⟩ : ∃ d5, d5 = s.fr 5 := ⟨_, rfl⟩
  rw [← hd5] at hg
  have hSl := nodup_le hSn hSi
  (have fs := And.intro f10 @i64.eq_1; (repeat (first | refine hGx _ ?_ | refine hNx _ ?_ | refine W_skip ?_ | refine W_exit ?_ | refine W_ret ?_ | refine W_label ?_ | refine W_scope ?_ | refine W_block ?_ | refine W_seq ?_ | ((first | refine tS fun N hNx => ?_ | refine WL_gE rfl rfl (by kernel_rfl) (by kernel_rfl) fun G hGx => ?_ | refine vcOpsS_sound (by kernel_rfl) ?_ | refine W_ifE fun A B hAx hBx => ?_); refine evT ?_; (first | refine hGx _ ?_ | refine hNx _ ?_ | refine hAx ?_ | refine hBx ?_ | skip)))); (try clear fs))
  refine WO_next rfl (show (11 : Nat) < 33 by decide) f10 hR (fun htd => ?_) (fun l1 p l2 H3 htd hR3 hE3 hk3 => ?_)
  · have htn : todo = [] := by
      cases todo with
      | nil => rfl
      | cons a l => cases htd
    subst htn
    have hfin := reg_fin hb hSm hSi (out := out) (fun x => by rw [hout]; constructor <;> (rintro ⟨b, h1, h2⟩; exact ⟨b, by have := hdn b; simp at this; first | exact this.2 h1 | exact this.1 h1, h2⟩))
    (have fs := @i64.eq_1; refine evT ?_; try clear fs); (first | refine hGx _ ?_ | refine hNx _ ?_ | skip)
    (have fs := @i64.eq_1; (repeat (first | refine hGx _ ?_ | refine hNx _ ?_ | refine W_skip ?_ | refine W_exit ?_ | refine W_ret ?_ | refine W_label ?_ | refine W_scope ?_ | refine W_block ?_ | refine W_seq ?_ | ((first | refine tS fun N hNx => ?_ | refine WL_gE rfl rfl (by kernel_rfl) (by kernel_rfl) fun G hGx => ?_ | refine vcOpsS_sound (by kernel_rfl) ?_ | refine W_ifE fun A B hAx hBx => ?_); refine evT ?_; (first | refine hGx _ ?_ | refine hNx _ ?_ | refine hAx ?_ | refine hBx ?_ | skip)))); (try clear fs))
    rw [hd5] at hg
    have hleS : H.le s.H := hle
    rcases hg with ⟨_, e1, e2⟩ | ⟨c, o, e0, e1, e2, e3⟩
    · have hout0 : out = [] := by simpa using e2
      rw [e1]
      refine (sort_nil _).mono ?_
      rintro d _ ⟨rfl, rfl⟩
      (have fs := And.intro e1 @i64.eq_1; (repeat (first | refine hGx _ ?_ | refine hNx _ ?_ | refine W_skip ?_ | refine W_exit ?_ | refine W_ret ?_ | refine W_label ?_ | refine W_scope ?_ | refine W_block ?_ | refine W_seq ?_ | ((first | refine tS fun N hNx => ?_ | refine WL_gE rfl rfl (by kernel_rfl) (by kernel_rfl) fun G hGx => ?_ | refine vcOpsS_sound (by kernel_rfl) ?_ | refine W_ifE fun A B hAx hBx => ?_); refine evT ?_; (first | refine hGx _ ?_ | refine hNx _ ?_ | refine hAx ?_ | refine hBx ?_ | skip)))); (try clear fs))
      refine (compact_nil _).mono ?_
      rintro d _ ⟨rfl, rfl⟩
      (have fs := @i64.eq_1; (repeat (first | refine hGx _ ?_ | refine hNx _ ?_ | refine W_skip ?_ | refine W_exit ?_ | refine W_ret ?_ | refine W_label ?_ | refine W_scope ?_ | refine W_block ?_ | refine W_seq ?_ | ((first | refine tS fun N hNx => ?_ | refine WL_gE rfl rfl (by kernel_rfl) (by kernel_rfl) fun G hGx => ?_ | refine vcOpsS_sound (by kernel_rfl) ?_ | refine W_ifE fun A B hAx hBx => ?_); refine evT ?_; (first | refine hGx _ ?_ | refine hNx _ ?_ | refine hAx ?_ | refine hBx ?_ | skip)))); (try clear fs))
      (first | (show Q .ret _) | (show Q .normal _) | skip); refine hret _ _ (by first | exact .inr rfl | exact .inl rfl) (by first | rfl | assumption | (simp only [put_df, withH_df]; assumption)) ?_; have fs := hdf; refine evT ?_; clear fs
      exact ⟨_, Heap.le_refl _, hleS, .seq 1 [], frz_nil, by rw [← hfin, hout0]; simp [sortI, cmpI]⟩
    · have hol2 : out.length ≤ 1000000 := by omega
      rw [List.length_map] at e1
      rw [e1]
      refine (sort_own e3 (by omega)).mono ?_
      rintro d _ ⟨rfl, rfl⟩
      (have fs := And.intro e1 @i64.eq_1; (repeat (first | refine hGx _ ?_ | refine hNx _ ?_ | refine W_skip ?_ | refine W_exit ?_ | refine W_ret ?_ | refine W_label ?_ | refine W_scope ?_ | refine W_block ?_ | refine W_seq ?_ | ((first | refine tS fun N hNx => ?_ | refine WL_gE rfl rfl (by kernel_rfl) (by kernel_rfl) fun G hGx => ?_ | refine vcOpsS_sound (by kernel_rfl) ?_ | refine W_ifE fun A B hAx hBx => ?_); refine evT ?_; (first | refine hGx _ ?_ | refine hNx _ ?_ | refine hAx ?_ | refine hBx ?_ | skip)))); (try clear fs))
      have h5 : ((s.H.upd c (.row 3 o 1 ((sortI out).map iD))) c) = some (.row 3 o 1 ((sortI out).map iD)) := Heap.upd_same _ _ _
      have h6 := compact_own h5 (by rw [sortI_length]; omega)
      rw [sortI_length] at h6
      refine h6.mono ?_
      rintro d _ ⟨rfl, cur, rfl, hcur⟩
      (have fs := @i64.eq_1; (repeat (first | refine hGx _ ?_ | refine hNx _ ?_ | refine W_skip ?_ | refine W_exit ?_ | refine W_ret ?_ | refine W_label ?_ | refine W_scope ?_ | refine W_block ?_ | refine W_seq ?_ | ((first | refine tS fun N hNx => ?_ | refine WL_gE rfl rfl (by kernel_rfl) (by kernel_rfl) fun G hGx => ?_ | refine vcOpsS_sound (by kernel_rfl) ?_ | refine W_ifE fun A B hAx hBx => ?_); refine evT ?_; (first | refine hGx _ ?_ | refine hNx _ ?_ | refine hAx ?_ | refine hBx ?_ | skip)))); (try clear fs))
      (first | (show Q .ret _) | (show Q .normal _) | skip); refine hret _ _ (by first | exact .inr rfl | exact .inl rfl) (by first | rfl | assumption | (simp only [put_df, withH_df]; assumption)) ?_; have fs := hdf; refine evT ?_; clear fs
      have hle6 : H.le (s.H.upd c (.row 3 o 1 (cur.map iD))) := Heap.le_put hleS e2
      have hnl : (cmpI (sortI out)).length ≤ cur.length := by have := congrArg List.length hcur; rw [List.length_take] at this; omega
      exact ⟨_, Heap.le_refl _, hle6, _, frz_row (k := 0) hle6 (Heap.upd_same _ _ _) e2 (by rw [List.length_map]; omega), by rw [List.drop_zero, ← List.map_take, hcur, hfin]⟩
  · obtain ⟨t1, t2', e1, e2, e3⟩ := List.map_eq_append_iff.1 htd
    obtain ⟨b, t2, e4, e5, e6⟩ := List.map_eq_cons_iff.1 e3
    subst e1 e4 e2 e6 e5
    have hiff : ∀ x, x ∈ S ↔ x ∈ dn ++ [b] ∨ x ∈ t1 ++ t2 := fun x => by
      rw [hdn x, List.mem_append, List.mem_append, List.mem_append, List.mem_cons, List.mem_singleton]
      constructor
      · rintro (h | h | h | h)
        · exact .inl (.inl h)
        · exact .inr (.inl h)
        · exact .inl (.inr h)
        · exact .inr (.inr h)
      · rintro ((h | h) | h | h)
        · exact .inl h
        · exact .inr (.inr (.inl h))
        · exact .inr (.inl h)
        · exact .inr (.inr (.inr h))
    have hbS : b ∈ S := (hiff b).2 (.inl (by simp))
    have hbi := hSi b hbS
    have hR4 : Rng H3 bm r (SV (t1 ++ t2)) := by
      have : SV (t1 ++ t2) = SV t1 ++ SV t2 := List.map_append
      rw [this]; exact hR3
    have hle3 : H.le H3 := fun x z hz => (hk3 x (fun e => by rw [e, hr00] at hz; cases hz)).trans (hle x z hz)
    have hg3 : Gl H 3 1 (out.map iD) d5 H3 ob := hg.keep fun c hc => hk3 c fun e => hob2 (by rw [hc, e])
    have hln : dn.length + 1 + (t1 ++ t2).length = S.length := by rw [← hdl, List.length_append, List.length_append, List.length_cons]; omega
    have hga := ty_get hbi
    have h0a : 0 ≤ b := hbi.1
    have hal : b.toNat < ts.length := by unfold InR at hbi; omega
    have hal' : b < (ts.length : Int) := hbi.2
    obtain ⟨t, ht⟩ : ∃ t, t = tyAt ts b := ⟨_, rfl⟩
    have hmem : ∀ (out' : List Int), (∀ x, x ∈ out' ↔ x ∈ out ∨ (t.k = 3 ∧ t.r = x)) → ∀ x, x ∈ out' ↔ ∃ b' ∈ dn ++ [b], (tyAt ts b').k = 3 ∧ (tyAt ts b').r = x := fun out' h x => by
      rw [h x, hout x]
      constructor
      · rintro (⟨b', h1, h2⟩ | h)
        · exact ⟨b', by simp [h1], h2⟩
        · exact ⟨b, by simp, by rw [← ht]; exact h⟩
      · rintro ⟨b', h1, h2⟩
        rcases List.mem_append.1 h1 with h1 | h1
        · exact .inl ⟨b', h1, h2⟩
        · rw [List.mem_singleton] at h1
          rw [h1, ← ht] at h2
          exact .inr h2
    rw [← ht] at hga
    obtain ⟨tk, tm, tr, te, ta⟩ := t
    simp only [tyD] at hga
    have q3' : tk = 3 ∨ tk ≠ 3 := by omega
    rcases q3' with h3 | h3
    · have q3 : (tk = 3) = True := eq_true h3
      (have fs := @i64.eq_1; refine evT ?_; try clear fs); (first | refine hGx _ ?_ | refine hNx _ ?_ | skip)
      (have fs := @i64.eq_1; (repeat (first | refine hGx _ ?_ | refine hNx _ ?_ | refine W_skip ?_ | refine W_exit ?_ | refine W_ret ?_ | refine W_label ?_ | refine W_scope ?_ | refine W_block ?_ | refine W_seq ?_ | ((first | refine tS fun N hNx => ?_ | refine WL_gE rfl rfl (by kernel_rfl) (by kernel_rfl) fun G hGx => ?_ | refine vcOpsS_sound (by kernel_rfl) ?_ | refine W_ifE fun A B hAx hBx => ?_); refine evT ?_; (first | refine hGx _ ?_ | refine hNx _ ?_ | refine hAx ?_ | refine hBx ?_ | skip)))); (try clear fs))
      refine WO_entry rfl (show (13 : Nat) < 33 by decide) (by exact f10) hE3 ?_
      (have fs := And.intro f0 (And.intro @i64.eq_1 (And.intro hga (And.intro h0a (And.intro hal (And.intro hal' (And.intro htyl q3)))))); refine evT ?_; try clear fs); (first | refine hGx _ ?_ | refine hNx _ ?_ | skip)
      (have fs := And.intro f0 (And.intro @i64.eq_1 (And.intro hga (And.intro h0a (And.intro hal (And.intro hal' (And.intro htyl q3)))))); (repeat (first | refine hGx _ ?_ | refine hNx _ ?_ | refine W_skip ?_ | refine W_exit ?_ | refine W_ret ?_ | refine W_label ?_ | refine W_scope ?_ | refine W_block ?_ | refine W_seq ?_ | ((first | refine tS fun N hNx => ?_ | refine WL_gE rfl rfl (by kernel_rfl) (by kernel_rfl) fun G hGx => ?_ | refine vcOpsS_sound (by kernel_rfl) ?_ | refine W_ifE fun A B hAx hBx => ?_); refine evT ?_; (first | refine hGx _ ?_ | refine hNx _ ?_ | refine hAx ?_ | refine hBx ?_ | skip)))); (try clear fs))
      rw [hd5] at hg3
      refine apV_grow (e := 3) ty36 rfl ty36 rfl ty3 rfl (by decide) hle3 hg3 (new := [iD tr]) (by exact ⟨rfl, rfl⟩) (by rw [List.length_map]; show (_ + 1) * 8 ≤ _; omega) fun d H6 ob6 hg6 hle6 hp6 => ?_
      have hg7 : Gl H 3 1 ((out ++ [tr]).map iD) d H6 ob6 := by rw [List.map_append]; exact hg6
      obtain ⟨zb, hzb⟩ : ∃ z, H3 bm = some z := by obtain ⟨_, _, _, _, _, h, _⟩ := hR4; exact ⟨_, h⟩
      obtain ⟨zr, hzr⟩ : ∃ z, H3 r = some z := by obtain ⟨_, _, _, _, _, _, h, _⟩ := hR4; exact ⟨_, h⟩
      have k1 := hp6 bm zb hzb hob1
      have k2 := hp6 r zr hzr hob2
      (have fs := @i64.eq_1; (repeat (first | refine hGx _ ?_ | refine hNx _ ?_ | refine W_skip ?_ | refine W_exit ?_ | refine W_ret ?_ | refine W_label ?_ | refine W_scope ?_ | refine W_block ?_ | refine W_seq ?_ | ((first | refine tS fun N hNx => ?_ | refine WL_gE rfl rfl (by kernel_rfl) (by kernel_rfl) fun G hGx => ?_ | refine vcOpsS_sound (by kernel_rfl) ?_ | refine W_ifE fun A B hAx hBx => ?_); refine evT ?_; (first | refine hGx _ ?_ | refine hNx _ ?_ | refine hAx ?_ | refine hBx ?_ | skip)))); (try clear fs))
      exact ⟨_, by show (t1 ++ t2).length < (t1 ++ b :: t2).length; rw [List.length_append, List.length_append, List.length_cons]; omega, t1 ++ t2, dn ++ [b], out ++ [tr], ob6, rfl, hdf, f0, f10, hR4.keep (k1.1.trans hzb.symm) (k2.1.trans hzr.symm), hle6, hg7, k1.2, k2.2, hiff, hmem (out ++ [tr]) fun x => by rw [List.mem_append, List.mem_singleton]; exact ⟨fun h => h.imp id fun h => ⟨h3, h.symm⟩, fun h => h.imp id fun h => h.2.symm⟩, by rw [List.length_append, List.length_append]; simpa using hol, by rw [List.length_append]; exact hln⟩
    · have q3 : (tk = 3) = False := eq_false h3
      (have fs := @i64.eq_1; refine evT ?_; try clear fs); (first | refine hGx _ ?_ | refine hNx _ ?_ | skip)
      (have fs := @i64.eq_1; (repeat (first | refine hGx _ ?_ | refine hNx _ ?_ | refine W_skip ?_ | refine W_exit ?_ | refine W_ret ?_ | refine W_label ?_ | refine W_scope ?_ | refine W_block ?_ | refine W_seq ?_ | ((first | refine tS fun N hNx => ?_ | refine WL_gE rfl rfl (by kernel_rfl) (by kernel_rfl) fun G hGx => ?_ | refine vcOpsS_sound (by kernel_rfl) ?_ | refine W_ifE fun A B hAx hBx => ?_); refine evT ?_; (first | refine hGx _ ?_ | refine hNx _ ?_ | refine hAx ?_ | refine hBx ?_ | skip)))); (try clear fs))
      refine WO_entry rfl (show (13 : Nat) < 33 by decide) (by exact f10) hE3 ?_
      (have fs := And.intro f0 (And.intro @i64.eq_1 (And.intro hga (And.intro h0a (And.intro hal (And.intro hal' (And.intro htyl q3)))))); refine evT ?_; try clear fs); (first | refine hGx _ ?_ | refine hNx _ ?_ | skip)
      (have fs := And.intro f0 (And.intro @i64.eq_1 (And.intro hga (And.intro h0a (And.intro hal (And.intro hal' (And.intro htyl q3)))))); (repeat (first | refine hGx _ ?_ | refine hNx _ ?_ | refine W_skip ?_ | refine W_exit ?_ | refine W_ret ?_ | refine W_label ?_ | refine W_scope ?_ | refine W_block ?_ | refine W_seq ?_ | ((first | refine tS fun N hNx => ?_ | refine WL_gE rfl rfl (by kernel_rfl) (by kernel_rfl) fun G hGx => ?_ | refine vcOpsS_sound (by kernel_rfl) ?_ | refine W_ifE fun A B hAx hBx => ?_); refine evT ?_; (first | refine hGx _ ?_ | refine hNx _ ?_ | refine hAx ?_ | refine hBx ?_ | skip)))); (try clear fs))
      (have fs := @i64.eq_1; (repeat (first | refine hGx _ ?_ | refine hNx _ ?_ | refine W_skip ?_ | refine W_exit ?_ | refine W_ret ?_ | refine W_label ?_ | refine W_scope ?_ | refine W_block ?_ | refine W_seq ?_ | ((first | refine tS fun N hNx => ?_ | refine WL_gE rfl rfl (by kernel_rfl) (by kernel_rfl) fun G hGx => ?_ | refine vcOpsS_sound (by kernel_rfl) ?_ | refine W_ifE fun A B hAx hBx => ?_); refine evT ?_; (first | refine hGx _ ?_ | refine hNx _ ?_ | refine hAx ?_ | refine hBx ?_ | skip)))); (try clear fs))
      exact ⟨_, by show (t1 ++ t2).length < (t1 ++ b :: t2).length; rw [List.length_append, List.length_append, List.length_cons]; omega, t1 ++ t2, dn ++ [b], out, ob, rfl, hdf, f0, f10, hR4, hle3, by rw [hd5] at hg3; exact hg3, hob1, hob2, hiff, hmem out fun x => ⟨.inl, fun h => h.elim id fun h => absurd h.1 h3⟩, by rw [List.length_append]; omega, by rw [List.length_append]; exact hln⟩
end Go.Proofs.Ytbcghjcakincoaa
