/- Lemmas and contracts of functions, several texts in one: UC UE UF. -/
import Derived.Test.YtbcghjcakincoaaGT5
import Derived.Test.YtbcghjcakincoaaGT1
import Derived.Test.YtbcghjcakincoaaGYB
/- types.Copyable. -/
namespace Go.Proofs.Ytbcghjcakincoaa
open Go.RowKit
set_option linter.unusedVariables false
set_option maxRecDepth 100000
set_option linter.unusedSimpArgs false
set_option maxHeartbeats 1000000 in
/-- The closure inside: not. -/
theorem cop2_N (ts : List TyS) (bm bf : Nat) (x : Int) (b : Bool) (H : Heap) (K : Heap → Prop) (hHf : H bf = some (.row 121 0 1 [[.fn 88 [.rp [.seq 5 (ts.map tyD)], .rp [.val (.map (some bm))], .ep bf 0 1 0 0]]])) (h : Does Try.prog 88 [i64 x, .rp [.seq 5 (ts.map tyD)], .rp [.val (.map (some bm))], .ep bf 0 1 0 0] H fun d H' => d = .val (.bool b) ∧ K H') :
    Does Try.prog 90 [i64 x, .ep bf 0 1 0 0] H fun d H' => d = .val (.bool (!b)) ∧ K H' := by
  refine does_of _ _ Try.func90 rfl rfl Try.ntmps90 Try.results90 (by simp only [List.length_cons, List.length_nil]; omega) fun w0 Q hret => ?_
  (have fs := And.intro @i64.eq_1 hHf; (repeat (first | refine hGx _ ?_ | refine hNx _ ?_ | refine W_skip ?_ | refine W_exit ?_ | refine W_ret ?_ | refine W_label ?_ | refine W_scope ?_ | refine W_block ?_ | refine W_seq ?_ | ((first | refine tS fun N hNx => ?_ | refine WL_gE rfl rfl (by kernel_rfl) (by kernel_rfl) fun G hGx => ?_ | refine vcOpsS_sound (by kernel_rfl) ?_ | refine W_ifE fun A B hAx hBx => ?_); refine evT ?_; (first | refine hGx _ ?_ | refine hNx _ ?_ | refine hAx ?_ | refine hBx ?_ | skip)))); (try clear fs))
  refine h.mono ?_
  rintro d H1 ⟨rfl, hK⟩
  (have fs := @i64.eq_1; (repeat (first | refine hGx _ ?_ | refine hNx _ ?_ | refine W_skip ?_ | refine W_exit ?_ | refine W_ret ?_ | refine W_label ?_ | refine W_scope ?_ | refine W_block ?_ | refine W_seq ?_ | ((first | refine tS fun N hNx => ?_ | refine WL_gE rfl rfl (by kernel_rfl) (by kernel_rfl) fun G hGx => ?_ | refine vcOpsS_sound (by kernel_rfl) ?_ | refine W_ifE fun A B hAx hBx => ?_); refine evT ?_; (first | refine hGx _ ?_ | refine hNx _ ?_ | refine hAx ?_ | refine hBx ?_ | skip)))); (try clear fs))
  (first | (show Q .ret _) | (show Q .normal _) | skip); refine hret _ _ (by first | exact .inr rfl | exact .inl rfl) (by first | rfl | assumption | (simp only [put_df, withH_df]; assumption)) ?_; have fs := @i64.eq_1; refine evT ?_; clear fs
  exact ⟨_, Heap.le_refl _, by first | exact hK | exact ⟨rfl, hK⟩⟩
set_option maxHeartbeats 1000000 in
/-- The search through the fields; G: what holds of the set of the types seen. -/
theorem idxC_N (ts : List TyS) (bm bf : Nat) (l : List Int) (G : List Int → Prop) (H0 : Heap) (hbmf : bm ≠ bf) (hl : l.length ≤ 140737488351232) (hf : H0 bf = some (.row 121 0 1 [[.fn 88 [.rp [.seq 5 (ts.map tyD)], .rp [.val (.map (some bm))], .ep bf 0 1 0 0]]]))
    (hc : ∀ x ∈ l, ∀ S, G S → Does Try.prog 88 [i64 x, .rp [.seq 5 (ts.map tyD)], .rp [.val (.map (some bm))], .ep bf 0 1 0 0] (H0.upd bm (.map (SM S))) fun d H' => d = .val (.bool (copB ts x)) ∧ ∃ S', H' = (H0.upd bm (.map (SM S))).upd bm (.map (SM S')) ∧ (copB ts x = true → G S'))
    (S0 : List Int) (hG : G S0) :
    Does Try.prog 108 [.seq 1 (l.map iD), .fn 90 [.ep bf 0 1 0 0]] (H0.upd bm (.map (SM S0))) fun d H' => ∃ r S', d = i64 r ∧ H' = H0.upd bm (.map (SM S')) ∧ ((0 ≤ r ∧ ∃ x ∈ l, copB ts x = false) ∨ (r = -1 ∧ (∀ x ∈ l, copB ts x = true) ∧ G S')) := by
  have hll : (List.map iD l).length = l.length := List.length_map _
  refine does_of _ _ Try.func108 rfl rfl Try.ntmps108 Try.results108 (by simp only [List.length_cons, List.length_nil]; omega) fun w0 Q hret => ?_
  (have fs := And.intro @i64.eq_1 hll; (repeat (first | refine hGx _ ?_ | refine hNx _ ?_ | refine W_skip ?_ | refine W_exit ?_ | refine W_ret ?_ | refine W_label ?_ | refine W_scope ?_ | refine W_block ?_ | refine W_seq ?_ | ((first | refine tS fun N hNx => ?_ | refine WL_gE rfl rfl (by kernel_rfl) (by kernel_rfl) fun G hGx => ?_ | refine vcOpsS_sound (by kernel_rfl) ?_ | refine W_ifE fun A B hAx hBx => ?_); refine evT ?_; (first | refine hGx _ ?_ | refine hNx _ ?_ | refine hAx ?_ | refine hBx ?_ | skip)))); (try clear fs))
  refine W_loopN l.length (fun i s => s.df = [] ∧ s.fr 0 = .seq 1 (l.map iD) ∧ s.fr 1 = .fn 90 [.ep bf 0 1 0 0] ∧ s.fr 7 = i64 l.length ∧ s.fr 8 = i64 i ∧ (∃ S, s.H = H0.upd bm (.map (SM S)) ∧ G S) ∧ ∀ x ∈ l.take i, copB ts x = true) ⟨rfl, rfl, rfl, rfl, rfl, ⟨_, rfl, hG⟩, by simp⟩ ?_
  rintro i s hi ⟨hdf, f0, f1, f7, f8, ⟨S, hH, hGS⟩, hall⟩
  have hx : (i : Int).toNat = i := Int.toNat_natCast _
  have h00 : (0 : Int) ≤ (i : Int) := Int.natCast_nonneg _
  by_cases hil : i < l.length
  case neg =>
    have q6 : ((i : Int) < (l.length : Int)) = False := eq_false (by omega)
    rw [List.take_of_length_le (by omega)] at hall
    (have fs := And.intro f7 (And.intro f8 (And.intro @i64.eq_1 q6)); (repeat (first | refine hGx _ ?_ | refine hNx _ ?_ | refine W_skip ?_ | refine W_exit ?_ | refine W_ret ?_ | refine W_label ?_ | refine W_scope ?_ | refine W_block ?_ | refine W_seq ?_ | ((first | refine tS fun N hNx => ?_ | refine WL_gE rfl rfl (by kernel_rfl) (by kernel_rfl) fun G hGx => ?_ | refine vcOpsS_sound (by kernel_rfl) ?_ | refine W_ifE fun A B hAx hBx => ?_); refine evT ?_; (first | refine hGx _ ?_ | refine hNx _ ?_ | refine hAx ?_ | refine hBx ?_ | skip)))); (try clear fs))
    (first | (show Q .ret _) | (show Q .normal _) | skip); refine hret _ _ (by first | exact .inr rfl | exact .inl rfl) (by first | rfl | assumption | (simp only [put_df, withH_df]; assumption)) ?_; have fs := hdf; refine evT ?_; clear fs
    exact ⟨_, Heap.le_refl _, -1, S, rfl, hH, .inr ⟨rfl, hall, hGS⟩⟩
  have q6 : ((i : Int) < (l.length : Int)) = True := eq_true (by omega)
  have w3 : IntKind.i64.wrap ((i : Int) + 1) = ((i + 1 : Nat) : Int) := by rw [wrap_i64_of (by omega)]; omega
  have hgi : (l.map iD)[i]? = some (iD l[i]) := by rw [List.getElem?_map, List.getElem?_eq_getElem hil]; rfl
  have hxl : l[i] ∈ l := List.getElem_mem hil
  have hHf : s.H bf = some (.row 121 0 1 [[.fn 88 [.rp [.seq 5 (ts.map tyD)], .rp [.val (.map (some bm))], .ep bf 0 1 0 0]]]) := by rw [hH, Heap.upd_ne (Ne.symm hbmf)]; exact hf
  have hq := cop2_N ts bm bf l[i] _ s.H _ hHf (by rw [hH]; exact hc l[i] hxl S hGS)
  (have fs := And.intro f0 (And.intro f1 (And.intro f7 (And.intro f8 (And.intro @i64.eq_1 (And.intro hll (And.intro q6 (And.intro hgi (And.intro hx (And.intro h00 hil))))))))); (repeat (first | refine hGx _ ?_ | refine hNx _ ?_ | refine W_skip ?_ | refine W_exit ?_ | refine W_ret ?_ | refine W_label ?_ | refine W_scope ?_ | refine W_block ?_ | refine W_seq ?_ | ((first | refine tS fun N hNx => ?_ | refine WL_gE rfl rfl (by kernel_rfl) (by kernel_rfl) fun G hGx => ?_ | refine vcOpsS_sound (by kernel_rfl) ?_ | refine W_ifE fun A B hAx hBx => ?_); refine evT ?_; (first | refine hGx _ ?_ | refine hNx _ ?_ | refine hAx ?_ | refine hBx ?_ | skip)))); (try clear fs))
  refine hq.mono ?_
  rintro d H1 ⟨rfl, S', hH1, hS'⟩
  rw [upd_upd] at hH1
  subst hH1
  by_cases hb : copB ts l[i] = true
  · rw [hb]
    (have fs := And.intro f8 (And.intro @i64.eq_1 w3); (repeat (first | refine hGx _ ?_ | refine hNx _ ?_ | refine W_skip ?_ | refine W_exit ?_ | refine W_ret ?_ | refine W_label ?_ | refine W_scope ?_ | refine W_block ?_ | refine W_seq ?_ | ((first | refine tS fun N hNx => ?_ | refine WL_gE rfl rfl (by kernel_rfl) (by kernel_rfl) fun G hGx => ?_ | refine vcOpsS_sound (by kernel_rfl) ?_ | refine W_ifE fun A B hAx hBx => ?_); refine evT ?_; (first | refine hGx _ ?_ | refine hNx _ ?_ | refine hAx ?_ | refine hBx ?_ | skip)))); (try clear fs))
    refine ⟨hil, hdf, f0, f1, f7, rfl, ⟨S', rfl, hS' hb⟩, fun x hx => ?_⟩
    rw [List.take_succ_eq_append_getElem hil] at hx
    rcases List.mem_append.1 hx with hx | hx
    · exact hall x hx
    · rw [List.mem_singleton] at hx; rw [hx]; exact hb
  · rw [Bool.not_eq_true] at hb
    rw [hb]
    (have fs := And.intro f8 @i64.eq_1; (repeat (first | refine hGx _ ?_ | refine hNx _ ?_ | refine W_skip ?_ | refine W_exit ?_ | refine W_ret ?_ | refine W_label ?_ | refine W_scope ?_ | refine W_block ?_ | refine W_seq ?_ | ((first | refine tS fun N hNx => ?_ | refine WL_gE rfl rfl (by kernel_rfl) (by kernel_rfl) fun G hGx => ?_ | refine vcOpsS_sound (by kernel_rfl) ?_ | refine W_ifE fun A B hAx hBx => ?_); refine evT ?_; (first | refine hGx _ ?_ | refine hNx _ ?_ | refine hAx ?_ | refine hBx ?_ | skip)))); (try clear fs))
    (first | (show Q .ret _) | (show Q .normal _) | skip); refine hret _ _ (by first | exact .inr rfl | exact .inl rfl) (by first | rfl | assumption | (simp only [put_df, withH_df]; assumption)) ?_; have fs := hdf; refine evT ?_; clear fs
    exact ⟨_, Heap.le_refl _, i, S', rfl, rfl, .inl ⟨by omega, l[i], hxl, hb⟩⟩
set_option maxHeartbeats 1000000 in
theorem contC_N (l : List Int) (f : D) (H : Heap) (K : Int → Heap → Prop) (h : Does Try.prog 108 [.seq 1 (l.map iD), f] H fun d H' => ∃ r, d = i64 r ∧ K r H') :
    Does Try.prog 89 [.seq 1 (l.map iD), f] H fun d H' => ∃ r, d = .val (.bool (decide (0 ≤ r))) ∧ K r H' := by
  refine does_of _ _ Try.func89 rfl rfl Try.ntmps89 Try.results89 (by simp only [List.length_cons, List.length_nil]; omega) fun w0 Q hret => ?_
  (have fs := @i64.eq_1; (repeat (first | refine hGx _ ?_ | refine hNx _ ?_ | refine W_skip ?_ | refine W_exit ?_ | refine W_ret ?_ | refine W_label ?_ | refine W_scope ?_ | refine W_block ?_ | refine W_seq ?_ | ((first | refine tS fun N hNx => ?_ | refine WL_gE rfl rfl (by kernel_rfl) (by kernel_rfl) fun G hGx => ?_ | refine vcOpsS_sound (by kernel_rfl) ?_ | refine W_ifE fun A B hAx hBx => ?_); refine evT ?_; (first | refine hGx _ ?_ | refine hNx _ ?_ | refine hAx ?_ | refine hBx ?_ | skip)))); (try clear fs))
  refine h.mono ?_
  rintro d H1 ⟨r, rfl, hK⟩
  (have fs := @i64.eq_1; (repeat (first | refine hGx _ ?_ | refine hNx _ ?_ | refine W_skip ?_ | refine W_exit ?_ | refine W_ret ?_ | refine W_label ?_ | refine W_scope ?_ | refine W_block ?_ | refine W_seq ?_ | ((first | refine tS fun N hNx => ?_ | refine WL_gE rfl rfl (by kernel_rfl) (by kernel_rfl) fun G hGx => ?_ | refine vcOpsS_sound (by kernel_rfl) ?_ | refine W_ifE fun A B hAx hBx => ?_); refine evT ?_; (first | refine hGx _ ?_ | refine hNx _ ?_ | refine hAx ?_ | refine hBx ?_ | skip)))); (try clear fs))
  (first | (show Q .ret _) | (show Q .normal _) | skip); refine hret _ _ (by first | exact .inr rfl | exact .inl rfl) (by first | rfl | assumption | (simp only [put_df, withH_df]; assumption)) ?_; have fs := @i64.eq_1; refine evT ?_; clear fs
  exact ⟨_, Heap.le_refl _, r, rfl, hK⟩
set_option maxHeartbeats 1000000 in
theorem cop1_N (ts : List TyS) (bm bf : Nat) (hw : wfT ts) (hr : rfN ts) (htl : ts.length ≤ 1000000) (har : ∀ t ∈ ts, t.ar.length ≤ 140737488351232) (hbmf : bm ≠ bf) :
    ∀ (kk : Nat) (a : Int) (S : List Int) (H : Heap), InR ts.length a → a < kk → H bf = some (.row 121 0 1 [[.fn 88 [.rp [.seq 5 (ts.map tyD)], .rp [.val (.map (some bm))], .ep bf 0 1 0 0]]]) → H bm = some (.map (SM S)) → (∀ x ∈ S, InR ts.length x) → (∀ k ∈ S, k ≤ a → Cop ts k) →
      Does Try.prog 88 [i64 a, .rp [.seq 5 (ts.map tyD)], .rp [.val (.map (some bm))], .ep bf 0 1 0 0] H fun d H' => d = .val (.bool (copB ts a)) ∧ ∃ S', H' = H.upd bm (.map (SM S')) ∧ (copB ts a = true → (∀ x ∈ S', InR ts.length x) ∧ ∀ x ∈ S', x ∈ S ∨ Cop ts x) := by
  intro kk
  induction kk using Nat.strongRecOn with
  | ind kk ih =>
    intro a S H ha hak hHf hHm hSi hSc
    have htyl : (List.map tyD ts).length = ts.length := List.length_map _
    have ha64 : I64' a := by unfold InR at ha; unfold I64'; omega
    have hkk := SM_ok (by omega) hSi ha64
    have hga := ty_get ha
    have hci := cop_iff hw ha
    have hdn := Dn.F hw a ha
    have hara : (tyAt ts a).ar.length ≤ 140737488351232 := har _ (tyAt_in ha)
    have hra := hr _ (tyAt_in ha)
    obtain ⟨t, ht⟩ : ∃ t, t = tyAt ts a := ⟨_, rfl⟩
    unfold parF at hdn
    rw [← ht] at hga hdn hara hci hra
    obtain ⟨tk, tm, tr, te, ta⟩ := t
    simp only [tyD] at hga
    have h0a : 0 ≤ a := ha.1
    have hal : a.toNat < ts.length := by unfold InR at ha; omega
    have hal' : a < (ts.length : Int) := ha.2
    refine does_of _ _ Try.func88 rfl rfl Try.ntmps88 Try.results88 (by simp only [List.length_cons, List.length_nil]; omega) fun w0 Q hret => ?_
    by_cases h3 : tk = 3
    · have q3 : (tk = 3) = True := eq_true h3
      have hcb : copB ts a = !tm := by
        cases tm with
        | true => exact copB_f.2 fun h => (hci.1 h).1 ⟨h3, rfl⟩
        | false => exact copB_t.2 (hci.2 ⟨(fun h => by cases h.2), by rw [hra h3]; simp⟩)
      (have fs := And.intro @i64.eq_1 (And.intro hga (And.intro h0a (And.intro hal (And.intro hal' (And.intro htyl q3))))); (repeat (first | refine hGx _ ?_ | refine hNx _ ?_ | refine W_skip ?_ | refine W_exit ?_ | refine W_ret ?_ | refine W_label ?_ | refine W_scope ?_ | refine W_block ?_ | refine W_seq ?_ | ((first | refine tS fun N hNx => ?_ | refine WL_gE rfl rfl (by kernel_rfl) (by kernel_rfl) fun G hGx => ?_ | refine vcOpsS_sound (by kernel_rfl) ?_ | refine W_ifE fun A B hAx hBx => ?_); refine evT ?_; (first | refine hGx _ ?_ | refine hNx _ ?_ | refine hAx ?_ | refine hBx ?_ | skip)))); (try clear fs))
      (first | (show Q .ret _) | (show Q .normal _) | skip); refine hret _ _ (by first | exact .inr rfl | exact .inl rfl) (by first | rfl | assumption | (simp only [put_df, withH_df]; assumption)) ?_; have fs := @i64.eq_1; refine evT ?_; clear fs
      exact ⟨_, Heap.le_refl _, by rw [hcb], S, (upd_self hHm).symm, fun _ => ⟨hSi, fun x hx => .inl hx⟩⟩
    have q3 : (tk = 3) = False := eq_false h3
    by_cases hin : a ∈ S
    · have hmg := SM_in hin
      (have fs := And.intro @i64.eq_1 (And.intro hga (And.intro h0a (And.intro hal (And.intro hal' (And.intro htyl (And.intro q3 (And.intro hHm hmg))))))); (repeat (first | refine hGx _ ?_ | refine hNx _ ?_ | refine W_skip ?_ | refine W_exit ?_ | refine W_ret ?_ | refine W_label ?_ | refine W_scope ?_ | refine W_block ?_ | refine W_seq ?_ | ((first | refine tS fun N hNx => ?_ | refine WL_gE rfl rfl (by kernel_rfl) (by kernel_rfl) fun G hGx => ?_ | refine vcOpsS_sound (by kernel_rfl) ?_ | refine W_ifE fun A B hAx hBx => ?_); refine evT ?_; (first | refine hGx _ ?_ | refine hNx _ ?_ | refine hAx ?_ | refine hBx ?_ | skip)))); (try clear fs))
      refine ⟨hkk, ?_⟩
      (have fs := @i64.eq_1; (repeat (first | refine hGx _ ?_ | refine hNx _ ?_ | refine W_skip ?_ | refine W_exit ?_ | refine W_ret ?_ | refine W_label ?_ | refine W_scope ?_ | refine W_block ?_ | refine W_seq ?_ | ((first | refine tS fun N hNx => ?_ | refine WL_gE rfl rfl (by kernel_rfl) (by kernel_rfl) fun G hGx => ?_ | refine vcOpsS_sound (by kernel_rfl) ?_ | refine W_ifE fun A B hAx hBx => ?_); refine evT ?_; (first | refine hGx _ ?_ | refine hNx _ ?_ | refine hAx ?_ | refine hBx ?_ | skip)))); (try clear fs))
      (first | (show Q .ret _) | (show Q .normal _) | skip); refine hret _ _ (by first | exact .inr rfl | exact .inl rfl) (by first | rfl | assumption | (simp only [put_df, withH_df]; assumption)) ?_; have fs := @i64.eq_1; refine evT ?_; clear fs
      exact ⟨_, Heap.le_refl _, by rw [copB_t.2 (hSc a hin (Int.le_refl _))], S, (upd_self hHm).symm, fun _ => ⟨hSi, fun x hx => .inl hx⟩⟩
    have hmg := SM_out hin
    have hset := SM_set hin
    (have fs := And.intro @i64.eq_1 (And.intro hga (And.intro h0a (And.intro hal (And.intro hal' (And.intro htyl (And.intro q3 (And.intro hHm hmg))))))); (repeat (first | refine hGx _ ?_ | refine hNx _ ?_ | refine W_skip ?_ | refine W_exit ?_ | refine W_ret ?_ | refine W_label ?_ | refine W_scope ?_ | refine W_block ?_ | refine W_seq ?_ | ((first | refine tS fun N hNx => ?_ | refine WL_gE rfl rfl (by kernel_rfl) (by kernel_rfl) fun G hGx => ?_ | refine vcOpsS_sound (by kernel_rfl) ?_ | refine W_ifE fun A B hAx hBx => ?_); refine evT ?_; (first | refine hGx _ ?_ | refine hNx _ ?_ | refine hAx ?_ | refine hBx ?_ | skip)))); (try clear fs))
    refine ⟨hkk, ?_⟩
    (have fs := And.intro @i64.eq_1 (And.intro hHm hmg); (repeat (first | refine hGx _ ?_ | refine hNx _ ?_ | refine W_skip ?_ | refine W_exit ?_ | refine W_ret ?_ | refine W_label ?_ | refine W_scope ?_ | refine W_block ?_ | refine W_seq ?_ | ((first | refine tS fun N hNx => ?_ | refine WL_gE rfl rfl (by kernel_rfl) (by kernel_rfl) fun G hGx => ?_ | refine vcOpsS_sound (by kernel_rfl) ?_ | refine W_ifE fun A B hAx hBx => ?_); refine evT ?_; (first | refine hGx _ ?_ | refine hNx _ ?_ | refine hAx ?_ | refine hBx ?_ | skip)))); (try clear fs))
    refine ⟨hkk, ?_⟩
    rw [hset]
    (have fs := And.intro @i64.eq_1 (And.intro hga (And.intro h0a (And.intro hal (And.intro hal' htyl)))); (repeat (first | refine hGx _ ?_ | refine hNx _ ?_ | refine W_skip ?_ | refine W_exit ?_ | refine W_ret ?_ | refine W_label ?_ | refine W_scope ?_ | refine W_block ?_ | refine W_seq ?_ | ((first | refine tS fun N hNx => ?_ | refine WL_gE rfl rfl (by kernel_rfl) (by kernel_rfl) fun G hGx => ?_ | refine vcOpsS_sound (by kernel_rfl) ?_ | refine W_ifE fun A B hAx hBx => ?_); refine evT ?_; (first | refine hGx _ ?_ | refine hNx _ ?_ | refine hAx ?_ | refine hBx ?_ | skip)))); (try clear fs))
    have hf2 : (H.upd bm (.map (SM (S ++ [a])))) bf = some (.row 121 0 1 [[.fn 88 [.rp [.seq 5 (ts.map tyD)], .rp [.val (.map (some bm))], .ep bf 0 1 0 0]]]) := by rw [Heap.upd_ne (Ne.symm hbmf)]; exact hHf
    refine (contC_N ta _ _ (fun r H' => ∃ S', H' = H.upd bm (.map (SM S')) ∧ ((0 ≤ r ∧ ∃ x ∈ ta, copB ts x = false) ∨ (r = -1 ∧ (∀ x ∈ ta, copB ts x = true) ∧ ((∀ x ∈ S', InR ts.length x) ∧ ∀ x ∈ S', x ∈ S ∨ x = a ∨ Cop ts x)))) ((idxC_N ts bm bf ta (fun S' => (∀ x ∈ S', InR ts.length x) ∧ ∀ x ∈ S', x ∈ S ∨ x = a ∨ Cop ts x) H hbmf hara hHf (fun x hx S1 hG => ?_) (S ++ [a]) ⟨?_, ?_⟩).mono fun d H' ⟨r, S', h1, h2, h3⟩ => ⟨r, h1, S', h2, h3⟩)).mono ?_
    · have hxa := hdn x hx
      refine (ih (x + 1).toNat (by omega) x S1 _ ⟨by omega, by omega⟩ (by omega) (by rw [Heap.upd_ne (Ne.symm hbmf)]; exact hHf) (Heap.upd_same _ _ _) hG.1 fun k hk hkx => ?_).mono ?_
      · rcases hG.2 k hk with h | h | h
        · exact hSc k h (by omega)
        · omega
        · exact h
      · rintro d H' ⟨h1, S', h2, h4⟩
        refine ⟨h1, S', h2, fun hc => ⟨(h4 hc).1, fun y hy => ?_⟩⟩
        rcases (h4 hc).2 y hy with h | h
        · exact hG.2 y h
        · exact .inr (.inr h)
    · intro x hx
      rcases List.mem_append.1 hx with hx | hx
      · exact hSi x hx
      · rw [List.mem_singleton] at hx; rw [hx]; exact ha
    · intro x hx
      rcases List.mem_append.1 hx with hx | hx
      · exact .inl hx
      · rw [List.mem_singleton] at hx; exact .inr (.inl hx)
    rintro d _ ⟨r, rfl, S', rfl, hres⟩
    rcases hres with ⟨h0, x, hx, hxb⟩ | ⟨rfl, hall, hi, hm⟩
    · have q0 : (0 ≤ r) = True := eq_true h0
      have hcb : copB ts a = false := copB_f.2 fun h => copB_f.1 hxb ((hci.1 h).2 x hx)
      (have fs := And.intro @i64.eq_1 q0; (repeat (first | refine hGx _ ?_ | refine hNx _ ?_ | refine W_skip ?_ | refine W_exit ?_ | refine W_ret ?_ | refine W_label ?_ | refine W_scope ?_ | refine W_block ?_ | refine W_seq ?_ | ((first | refine tS fun N hNx => ?_ | refine WL_gE rfl rfl (by kernel_rfl) (by kernel_rfl) fun G hGx => ?_ | refine vcOpsS_sound (by kernel_rfl) ?_ | refine W_ifE fun A B hAx hBx => ?_); refine evT ?_; (first | refine hGx _ ?_ | refine hNx _ ?_ | refine hAx ?_ | refine hBx ?_ | skip)))); (try clear fs))
      (first | (show Q .ret _) | (show Q .normal _) | skip); refine hret _ _ (by first | exact .inr rfl | exact .inl rfl) (by first | rfl | assumption | (simp only [put_df, withH_df]; assumption)) ?_; have fs := @i64.eq_1; refine evT ?_; clear fs
      exact ⟨_, Heap.le_refl _, by simp [hcb], S', rfl, fun h => by rw [hcb] at h; cases h⟩
    · have hcp : Cop ts a := hci.2 ⟨fun h => h3 h.1, fun p hp => copB_t.1 (hall p hp)⟩
      have hcb : copB ts a = true := copB_t.2 hcp
      (have fs := @i64.eq_1; (repeat (first | refine hGx _ ?_ | refine hNx _ ?_ | refine W_skip ?_ | refine W_exit ?_ | refine W_ret ?_ | refine W_label ?_ | refine W_scope ?_ | refine W_block ?_ | refine W_seq ?_ | ((first | refine tS fun N hNx => ?_ | refine WL_gE rfl rfl (by kernel_rfl) (by kernel_rfl) fun G hGx => ?_ | refine vcOpsS_sound (by kernel_rfl) ?_ | refine W_ifE fun A B hAx hBx => ?_); refine evT ?_; (first | refine hGx _ ?_ | refine hNx _ ?_ | refine hAx ?_ | refine hBx ?_ | skip)))); (try clear fs))
      (first | (show Q .ret _) | (show Q .normal _) | skip); refine hret _ _ (by first | exact .inr rfl | exact .inl rfl) (by first | rfl | assumption | (simp only [put_df, withH_df]; assumption)) ?_; have fs := @i64.eq_1; refine evT ?_; clear fs
      exact ⟨_, Heap.le_refl _, by simp [hcb], S', rfl, fun _ => ⟨hi, fun x hx => by
        rcases hm x hx with h | h | h
        · exact .inl h
        · rw [h]; exact .inr hcp
        · exact .inr h⟩⟩
set_option maxHeartbeats 1000000 in
theorem cop_N (ts : List TyS) (a : Int) (H : Heap) (hw : wfT ts) (hr : rfN ts) (htl : ts.length ≤ 1000000) (har : ∀ t ∈ ts, t.ar.length ≤ 140737488351232) :
    Does Try.prog 45 [.seq 5 (ts.map tyD), i64 a] H fun d H' => d = .val (.bool (copB ts a)) ∧ H = H' := by
  refine Does.frz (K := fun d => d = .val (.bool (copB ts a))) ?_
  have htyl : (List.map tyD ts).length = ts.length := List.length_map _
  have hle := Heap.le_refl H
  refine does_of _ _ Try.func45 rfl rfl Try.ntmps45 Try.results45 (by simp only [List.length_cons, List.length_nil]; omega) fun w0 Q hret => ?_
  (have fs := @i64.eq_1; (repeat (first | refine hGx _ ?_ | refine hNx _ ?_ | refine W_skip ?_ | refine W_exit ?_ | refine W_ret ?_ | refine W_label ?_ | refine W_scope ?_ | refine W_block ?_ | refine W_seq ?_ | ((first | refine tS fun N hNx => ?_ | refine WL_gE rfl rfl (by kernel_rfl) (by kernel_rfl) fun G hGx => ?_ | refine vcOpsS_sound (by kernel_rfl) ?_ | refine W_ifE fun A B hAx hBx => ?_); refine evT ?_; (first | refine hGx _ ?_ | refine hNx _ ?_ | refine hAx ?_ | refine hBx ?_ | skip)))); (try clear fs))
  intro c2 hc2
  refine hNx _ ?_
  refine W_frzp 2 rfl (Heap.upd_same _ _ _) rfl ?_; simp only [St.frzp, put_H, wdf_H, withH_H, withH_put, wdf_withH, withH_withH, init_H, init_withH, Heap.del_upd_same, Heap.del_none hc2, withH_self]
  by_cases h1 : 0 ≤ a
  case neg =>
    have hcb : copB ts a = false := copB_f.2 fun h => h1 h.1.1
    have q1 : (a < 0) = True := eq_true (by omega)
    (have fs := And.intro @i64.eq_1 (And.intro htyl q1); (repeat (first | refine hGx _ ?_ | refine hNx _ ?_ | refine W_skip ?_ | refine W_exit ?_ | refine W_ret ?_ | refine W_label ?_ | refine W_scope ?_ | refine W_block ?_ | refine W_seq ?_ | ((first | refine tS fun N hNx => ?_ | refine WL_gE rfl rfl (by kernel_rfl) (by kernel_rfl) fun G hGx => ?_ | refine vcOpsS_sound (by kernel_rfl) ?_ | refine W_ifE fun A B hAx hBx => ?_); refine evT ?_; (first | refine hGx _ ?_ | refine hNx _ ?_ | refine hAx ?_ | refine hBx ?_ | skip)))); (try clear fs))
    (first | (show Q .ret _) | (show Q .normal _) | skip); refine hret _ _ (by first | exact .inr rfl | exact .inl rfl) (by first | rfl | assumption | (simp only [put_df, withH_df]; assumption)) ?_; have fs := @i64.eq_1; refine evT ?_; clear fs
    exact ⟨_, Heap.le_refl _, hle, _, frz_refl hle, by rw [hcb]⟩
  have q1 : (a < 0) = False := eq_false (by omega)
  by_cases h2 : a < ts.length
  case neg =>
    have hcb : copB ts a = false := copB_f.2 fun h => h2 h.1.2
    have q2 : ((ts.length : Int) ≤ a) = True := eq_true (by omega)
    (have fs := And.intro @i64.eq_1 (And.intro q1 (And.intro q2 htyl)); (repeat (first | refine hGx _ ?_ | refine hNx _ ?_ | refine W_skip ?_ | refine W_exit ?_ | refine W_ret ?_ | refine W_label ?_ | refine W_scope ?_ | refine W_block ?_ | refine W_seq ?_ | ((first | refine tS fun N hNx => ?_ | refine WL_gE rfl rfl (by kernel_rfl) (by kernel_rfl) fun G hGx => ?_ | refine vcOpsS_sound (by kernel_rfl) ?_ | refine W_ifE fun A B hAx hBx => ?_); refine evT ?_; (first | refine hGx _ ?_ | refine hNx _ ?_ | refine hAx ?_ | refine hBx ?_ | skip)))); (try clear fs))
    (first | (show Q .ret _) | (show Q .normal _) | skip); refine hret _ _ (by first | exact .inr rfl | exact .inl rfl) (by first | rfl | assumption | (simp only [put_df, withH_df]; assumption)) ?_; have fs := @i64.eq_1; refine evT ?_; clear fs
    exact ⟨_, Heap.le_refl _, hle, _, frz_refl hle, by rw [hcb]⟩
  have q2 : ((ts.length : Int) ≤ a) = False := eq_false (by omega)
  (have fs := And.intro @i64.eq_1 (And.intro q1 (And.intro q2 htyl)); (repeat (first | refine hGx _ ?_ | refine hNx _ ?_ | refine W_skip ?_ | refine W_exit ?_ | refine W_ret ?_ | refine W_label ?_ | refine W_scope ?_ | refine W_block ?_ | refine W_seq ?_ | ((first | refine tS fun N hNx => ?_ | refine WL_gE rfl rfl (by kernel_rfl) (by kernel_rfl) fun G hGx => ?_ | refine vcOpsS_sound (by kernel_rfl) ?_ | refine W_ifE fun A B hAx hBx => ?_); refine evT ?_; (first | refine hGx _ ?_ | refine hNx _ ?_ | refine hAx ?_ | refine hBx ?_ | skip)))); (try clear fs))
  intro bm hbm b5 hb5
  have hb50 : (H.upd bm (.map [])) b5 = none := hb5
  refine hNx _ ?_
  refine W_frzp 5 rfl (Heap.upd_same _ _ _) rfl ?_
  refine W_less (H.upd bm (.map [])) (fun x z hz => ?_) ?_
  · have e1 : x ≠ b5 := fun e => by rw [e, hb50] at hz; cases hz
    show (((H.upd bm _).upd b5 _).del b5) x = _
    rw [Heap.del_ne e1, Heap.upd_ne e1]
    exact hz
  simp only [St.frzp, List.drop]
  (have fs := @i64.eq_1; (repeat (first | refine hGx _ ?_ | refine hNx _ ?_ | refine W_skip ?_ | refine W_exit ?_ | refine W_ret ?_ | refine W_label ?_ | refine W_scope ?_ | refine W_block ?_ | refine W_seq ?_ | ((first | refine tS fun N hNx => ?_ | refine WL_gE rfl rfl (by kernel_rfl) (by kernel_rfl) fun G hGx => ?_ | refine vcOpsS_sound (by kernel_rfl) ?_ | refine W_ifE fun A B hAx hBx => ?_); refine evT ?_; (first | refine hGx _ ?_ | refine hNx _ ?_ | refine hAx ?_ | refine hBx ?_ | skip)))); (try clear fs))
  intro bf hbf
  have hbmf : bm ≠ bf := Heap.ne_of (Heap.upd_same _ _ _) hbf
  have hbf0 : H bf = none := (Heap.upd_none.1 hbf).2
  refine hNx _ ?_
  (have fs := @i64.eq_1; (repeat (first | refine hGx _ ?_ | refine hNx _ ?_ | refine W_skip ?_ | refine W_exit ?_ | refine W_ret ?_ | refine W_label ?_ | refine W_scope ?_ | refine W_block ?_ | refine W_seq ?_ | ((first | refine tS fun N hNx => ?_ | refine WL_gE rfl rfl (by kernel_rfl) (by kernel_rfl) fun G hGx => ?_ | refine vcOpsS_sound (by kernel_rfl) ?_ | refine W_ifE fun A B hAx hBx => ?_); refine evT ?_; (first | refine hGx _ ?_ | refine hNx _ ?_ | refine hAx ?_ | refine hBx ?_ | skip)))); (try clear fs))
  refine (cop1_N ts bm bf hw hr htl har hbmf ts.length a [] _ ⟨by omega, by omega⟩ (by omega) (Heap.upd_same _ _ _) ((Heap.upd_ne hbmf).trans (Heap.upd_same _ _ _)) (by simp) (by simp)).mono ?_
  rintro d _ ⟨rfl, S, rfl, _⟩
  (have fs := @i64.eq_1; (repeat (first | refine hGx _ ?_ | refine hNx _ ?_ | refine W_skip ?_ | refine W_exit ?_ | refine W_ret ?_ | refine W_label ?_ | refine W_scope ?_ | refine W_block ?_ | refine W_seq ?_ | ((first | refine tS fun N hNx => ?_ | refine WL_gE rfl rfl (by kernel_rfl) (by kernel_rfl) fun G hGx => ?_ | refine vcOpsS_sound (by kernel_rfl) ?_ | refine W_ifE fun A B hAx hBx => ?_); refine evT ?_; (first | refine hGx _ ?_ | refine hNx _ ?_ | refine hAx ?_ | refine hBx ?_ | skip)))); (try clear fs))
  (first | (show Q .ret _) | (show Q .normal _) | skip); refine hret _ _ (by first | exact .inr rfl | exact .inl rfl) (by first | rfl | assumption | (simp only [put_df, withH_df]; assumption)) ?_; have fs := @i64.eq_1; refine evT ?_; clear fs
  have hle7 : H.le (((H.upd bm (.map [])).upd bf (.row 121 0 1 [[.fn 88 [.rp [.seq 5 (ts.map tyD)], .rp [.val (.map (some bm))], .ep bf 0 1 0 0]]])).upd bm (.map (SM S))) := Heap.le_put (Heap.le_put (Heap.le_put (Heap.le_refl _) hbm) hbf0) hbm
  exact ⟨_, Heap.le_refl _, hle7, _, frz_refl hle7, rfl⟩
end Go.Proofs.Ytbcghjcakincoaa
/- The reference of chapter 06: Mentions, Regions, Copyable. -/
namespace Go.Proofs.Ytbcghjcakincoaa
open Go.RowKit
set_option linter.unusedVariables false
set_option maxRecDepth 100000
set_option linter.unusedSimpArgs false
set_option maxHeartbeats 1000000 in
theorem kment_N (ts : List TyS) (hw : wfT ts) (hr : rfN ts) (htl : ts.length ≤ 1000000) (har : ∀ t ∈ ts, t.ar.length ≤ 140737488351232) :
    ∀ (kk : Nat) (a r : Int) (H : Heap), a < kk → Does Try.prog 87 [.seq 5 (ts.map tyD), i64 a, i64 r] H fun d H' => d = .val (.bool (mentB ts a r)) ∧ H = H' := by
  intro kk
  induction kk using Nat.strongRecOn with
  | ind kk ih =>
    intro a r H hak
    refine Does.frz (K := fun d => d = .val (.bool (mentB ts a r))) ?_
    have htyl : (List.map tyD ts).length = ts.length := List.length_map _
    have hle := Heap.le_refl H
    refine does_of _ _ Try.func87 rfl rfl Try.ntmps87 Try.results87 (by simp only [List.length_cons, List.length_nil]; omega) fun w0 Q hret => ?_
    by_cases h1 : 0 ≤ a
    case neg =>
      have hcb : mentB ts a r = false := mentB_f.2 fun h => h1 h.1.1
      have q1 : (a < 0) = True := eq_true (by omega)
      (have fs := And.intro @i64.eq_1 (And.intro htyl q1); (repeat (first | refine hGx _ ?_ | refine hNx _ ?_ | refine W_skip ?_ | refine W_exit ?_ | refine W_ret ?_ | refine W_label ?_ | refine W_scope ?_ | refine W_block ?_ | refine W_seq ?_ | ((first | refine tS fun N hNx => ?_ | refine WL_gE rfl rfl (by kernel_rfl) (by kernel_rfl) fun G hGx => ?_ | refine vcOpsS_sound (by kernel_rfl) ?_ | refine W_ifE fun A B hAx hBx => ?_); refine evT ?_; (first | refine hGx _ ?_ | refine hNx _ ?_ | refine hAx ?_ | refine hBx ?_ | skip)))); (try clear fs))
      (first | (show Q .ret _) | (show Q .normal _) | skip); refine hret _ _ (by first | exact .inr rfl | exact .inl rfl) (by first | rfl | assumption | (simp only [put_df, withH_df]; assumption)) ?_; have fs := @i64.eq_1; refine evT ?_; clear fs
      exact ⟨_, Heap.le_refl _, hle, _, frz_refl hle, by rw [hcb]⟩
    have q1 : (a < 0) = False := eq_false (by omega)
    by_cases h2 : a < ts.length
    case neg =>
      have hcb : mentB ts a r = false := mentB_f.2 fun h => h2 h.1.2
      have q2 : ((ts.length : Int) ≤ a) = True := eq_true (by omega)
      (have fs := And.intro @i64.eq_1 (And.intro htyl (And.intro q1 q2)); (repeat (first | refine hGx _ ?_ | refine hNx _ ?_ | refine W_skip ?_ | refine W_exit ?_ | refine W_ret ?_ | refine W_label ?_ | refine W_scope ?_ | refine W_block ?_ | refine W_seq ?_ | ((first | refine tS fun N hNx => ?_ | refine WL_gE rfl rfl (by kernel_rfl) (by kernel_rfl) fun G hGx => ?_ | refine vcOpsS_sound (by kernel_rfl) ?_ | refine W_ifE fun A B hAx hBx => ?_); refine evT ?_; (first | refine hGx _ ?_ | refine hNx _ ?_ | refine hAx ?_ | refine hBx ?_ | skip)))); (try clear fs))
      (first | (show Q .ret _) | (show Q .normal _) | skip); refine hret _ _ (by first | exact .inr rfl | exact .inl rfl) (by first | rfl | assumption | (simp only [put_df, withH_df]; assumption)) ?_; have fs := @i64.eq_1; refine evT ?_; clear fs
      exact ⟨_, Heap.le_refl _, hle, _, frz_refl hle, by rw [hcb]⟩
    have q2 : ((ts.length : Int) ≤ a) = False := eq_false (by omega)
    have ha : InR ts.length a := ⟨h1, h2⟩
    have hga := ty_get ha
    have hmi := ment_iff hw (r := r) ha
    have hdn := Dn.A hw a ha
    have hara : (tyAt ts a).ar.length ≤ 140737488351232 := har _ (tyAt_in ha)
    have hra := hr _ (tyAt_in ha)
    obtain ⟨t, ht⟩ : ∃ t, t = tyAt ts a := ⟨_, rfl⟩
    rw [← ht] at hga hdn hara hmi hra
    obtain ⟨tk, tm, tr, te, ta⟩ := t
    simp only [tyD] at hga
    unfold parA at hdn hmi
    simp only at hdn hmi hra hara
    have hal : a.toNat < ts.length := by omega
    have hal' : a < (ts.length : Int) := ha.2
    (have fs := And.intro @i64.eq_1 (And.intro htyl (And.intro q1 (And.intro q2 (And.intro hga (And.intro h1 (And.intro hal hal')))))); (repeat (first | refine hGx _ ?_ | refine hNx _ ?_ | refine W_skip ?_ | refine W_exit ?_ | refine W_ret ?_ | refine W_label ?_ | refine W_scope ?_ | refine W_block ?_ | refine W_seq ?_ | ((first | refine tS fun N hNx => ?_ | refine WL_gE rfl rfl (by kernel_rfl) (by kernel_rfl) fun G hGx => ?_ | refine vcOpsS_sound (by kernel_rfl) ?_ | refine W_ifE fun A B hAx hBx => ?_); refine evT ?_; (first | refine hGx _ ?_ | refine hNx _ ?_ | refine hAx ?_ | refine hBx ?_ | skip)))); (try clear fs))
    intro c7 hc7
    refine hNx _ ?_
    refine W_frzp 7 rfl (Heap.upd_same _ _ _) rfl ?_; simp only [St.frzp, put_H, wdf_H, withH_H, withH_put, wdf_withH, withH_withH, init_H, init_withH, Heap.del_upd_same, Heap.del_none hc7, withH_self]
    by_cases hb1 : tk = 3 ∧ tr = r
    · have hcb : mentB ts a r = true := mentB_t.2 (hmi.2 (.inl hb1))
      have q3 : (tk = 3) = True := eq_true hb1.1
      have q4 : (tr = r) = True := eq_true hb1.2
      (have fs := And.intro @i64.eq_1 (And.intro q3 q4); (repeat (first | refine hGx _ ?_ | refine hNx _ ?_ | refine W_skip ?_ | refine W_exit ?_ | refine W_ret ?_ | refine W_label ?_ | refine W_scope ?_ | refine W_block ?_ | refine W_seq ?_ | ((first | refine tS fun N hNx => ?_ | refine WL_gE rfl rfl (by kernel_rfl) (by kernel_rfl) fun G hGx => ?_ | refine vcOpsS_sound (by kernel_rfl) ?_ | refine W_ifE fun A B hAx hBx => ?_); refine evT ?_; (first | refine hGx _ ?_ | refine hNx _ ?_ | refine hAx ?_ | refine hBx ?_ | skip)))); (try clear fs))
      (first | (show Q .ret _) | (show Q .normal _) | skip); refine hret _ _ (by first | exact .inr rfl | exact .inl rfl) (by first | rfl | assumption | (simp only [put_df, withH_df]; assumption)) ?_; have fs := @i64.eq_1; refine evT ?_; clear fs
      exact ⟨_, Heap.le_refl _, hle, _, frz_refl hle, by rw [hcb]⟩
    by_cases hb2 : tk = 3 ∧ mentB ts te r = true
    · have q3 : (tk = 3) = True := eq_true hb2.1
      have q4 : (tr = r) = False := eq_false fun h => hb1 ⟨hb2.1, h⟩
      rw [if_pos hb2.1] at hdn hmi
      have hcb : mentB ts a r = true := mentB_t.2 (hmi.2 (.inr ⟨te, by simp, mentB_t.1 hb2.2⟩))
      have hdt := hdn te (by simp)
      (have fs := And.intro @i64.eq_1 (And.intro q3 q4); (repeat (first | refine hGx _ ?_ | refine hNx _ ?_ | refine W_skip ?_ | refine W_exit ?_ | refine W_ret ?_ | refine W_label ?_ | refine W_scope ?_ | refine W_block ?_ | refine W_seq ?_ | ((first | refine tS fun N hNx => ?_ | refine WL_gE rfl rfl (by kernel_rfl) (by kernel_rfl) fun G hGx => ?_ | refine vcOpsS_sound (by kernel_rfl) ?_ | refine W_ifE fun A B hAx hBx => ?_); refine evT ?_; (first | refine hGx _ ?_ | refine hNx _ ?_ | refine hAx ?_ | refine hBx ?_ | skip)))); (try clear fs))
      refine (ih (te + 1).toNat (by omega) te r _ (by omega)).mono ?_
      rintro d _ ⟨rfl, rfl⟩
      rw [hb2.2]
      (have fs := @i64.eq_1; (repeat (first | refine hGx _ ?_ | refine hNx _ ?_ | refine W_skip ?_ | refine W_exit ?_ | refine W_ret ?_ | refine W_label ?_ | refine W_scope ?_ | refine W_block ?_ | refine W_seq ?_ | ((first | refine tS fun N hNx => ?_ | refine WL_gE rfl rfl (by kernel_rfl) (by kernel_rfl) fun G hGx => ?_ | refine vcOpsS_sound (by kernel_rfl) ?_ | refine W_ifE fun A B hAx hBx => ?_); refine evT ?_; (first | refine hGx _ ?_ | refine hNx _ ?_ | refine hAx ?_ | refine hBx ?_ | skip)))); (try clear fs))
      (first | (show Q .ret _) | (show Q .normal _) | skip); refine hret _ _ (by first | exact .inr rfl | exact .inl rfl) (by first | rfl | assumption | (simp only [put_df, withH_df]; assumption)) ?_; have fs := @i64.eq_1; refine evT ?_; clear fs
      exact ⟨_, Heap.le_refl _, hle, _, frz_refl hle, by rw [hcb]⟩
    have hfin : (∀ x ∈ ta, mentB ts x r = false) → mentB ts a r = false := fun h => mentB_f.2 fun hm => by
      rcases hmi.1 hm with h9 | ⟨p, hp, h9⟩
      · exact hb1 h9
      · by_cases h3 : tk = 3
        · rw [if_pos h3, List.mem_singleton] at hp
          rw [hp] at h9
          exact hb2 ⟨h3, mentB_t.2 h9⟩
        · rw [if_neg h3] at hp
          exact mentB_f.1 (h p hp) h9
    have hsome : ∀ x ∈ ta, mentB ts x r = true → mentB ts a r = true := fun x hx h => mentB_t.2 (hmi.2 (.inr ⟨x, by
      rw [if_neg (fun h3 => by rw [hra h3] at hx; cases hx)]
      exact hx, mentB_t.1 h⟩))
    have hlt : ∀ x ∈ ta, x < a ∧ 0 ≤ x := fun x hx => by
      rw [if_neg (fun h3 => by rw [hra h3] at hx; cases hx)] at hdn
      exact ⟨(hdn x hx).2, (hdn x hx).1⟩
    have htal : (List.map iD ta).length = ta.length := List.length_map _
    have hcase : tk = 3 ∨ tk ≠ 3 := by omega
    rcases hcase with h3 | h3
    case' inl =>
      have q3 : (tk = 3) = True := eq_true h3
      have q4 : (tr = r) = False := eq_false fun h => hb1 ⟨h3, h⟩
      have hb3 : mentB ts te r = false := by rw [← Bool.not_eq_true]; exact fun h => hb2 ⟨h3, h⟩
      have hdt : 0 ≤ te ∧ te < a := hdn te (by rw [if_pos h3]; simp)
      (have fs := And.intro @i64.eq_1 (And.intro q3 q4); (repeat (first | refine hGx _ ?_ | refine hNx _ ?_ | refine W_skip ?_ | refine W_exit ?_ | refine W_ret ?_ | refine W_label ?_ | refine W_scope ?_ | refine W_block ?_ | refine W_seq ?_ | ((first | refine tS fun N hNx => ?_ | refine WL_gE rfl rfl (by kernel_rfl) (by kernel_rfl) fun G hGx => ?_ | refine vcOpsS_sound (by kernel_rfl) ?_ | refine W_ifE fun A B hAx hBx => ?_); refine evT ?_; (first | refine hGx _ ?_ | refine hNx _ ?_ | refine hAx ?_ | refine hBx ?_ | skip)))); (try clear fs))
      refine (ih (te + 1).toNat (by omega) te r _ (by omega)).mono ?_
      rintro d _ ⟨rfl, rfl⟩
      rw [hb3]
      (have fs := @i64.eq_1; (repeat (first | refine hGx _ ?_ | refine hNx _ ?_ | refine W_skip ?_ | refine W_exit ?_ | refine W_ret ?_ | refine W_label ?_ | refine W_scope ?_ | refine W_block ?_ | refine W_seq ?_ | ((first | refine tS fun N hNx => ?_ | refine WL_gE rfl rfl (by kernel_rfl) (by kernel_rfl) fun G hGx => ?_ | refine vcOpsS_sound (by kernel_rfl) ?_ | refine W_ifE fun A B hAx hBx => ?_); refine evT ?_; (first | refine hGx _ ?_ | refine hNx _ ?_ | refine hAx ?_ | refine hBx ?_ | skip)))); (try clear fs))
    case' inr =>
      have q3 : (tk = 3) = False := eq_false h3
      (have fs := And.intro @i64.eq_1 q3; (repeat (first | refine hGx _ ?_ | refine hNx _ ?_ | refine W_skip ?_ | refine W_exit ?_ | refine W_ret ?_ | refine W_label ?_ | refine W_scope ?_ | refine W_block ?_ | refine W_seq ?_ | ((first | refine tS fun N hNx => ?_ | refine WL_gE rfl rfl (by kernel_rfl) (by kernel_rfl) fun G hGx => ?_ | refine vcOpsS_sound (by kernel_rfl) ?_ | refine W_ifE fun A B hAx hBx => ?_); refine evT ?_; (first | refine hGx _ ?_ | refine hNx _ ?_ | refine hAx ?_ | refine hBx ?_ | skip)))); (try clear fs))
    all_goals
      refine W_loopN ta.length (fun j s => s.df = [] ∧ s.fr 0 = .seq 5 (ts.map tyD) ∧ s.fr 2 = i64 r ∧ s.fr 7 = .rp [i64 tk, .val (.bool tm), i64 tr, i64 te, .seq 1 (ta.map iD)] ∧ s.fr 8 = i64 j ∧ s.H = H ∧ ∀ x ∈ ta.take j, mentB ts x r = false) ⟨rfl, rfl, rfl, rfl, rfl, rfl, by simp⟩ ?_
      rintro j s hj ⟨hdf, f0, f2, f7, f8, hH, hall⟩
      have hleS : H.le s.H := by rw [hH]; exact hle
      have hx : (j : Int).toNat = j := Int.toNat_natCast _
      have h00 : (0 : Int) ≤ (j : Int) := Int.natCast_nonneg _
      by_cases hjl : j < ta.length
      case neg =>
        have q6 : ((j : Int) < (ta.length : Int)) = False := eq_false (by omega)
        rw [List.take_of_length_le (by omega)] at hall
        (have fs := And.intro f7 (And.intro f8 (And.intro @i64.eq_1 (And.intro q6 htal))); (repeat (first | refine hGx _ ?_ | refine hNx _ ?_ | refine W_skip ?_ | refine W_exit ?_ | refine W_ret ?_ | refine W_label ?_ | refine W_scope ?_ | refine W_block ?_ | refine W_seq ?_ | ((first | refine tS fun N hNx => ?_ | refine WL_gE rfl rfl (by kernel_rfl) (by kernel_rfl) fun G hGx => ?_ | refine vcOpsS_sound (by kernel_rfl) ?_ | refine W_ifE fun A B hAx hBx => ?_); refine evT ?_; (first | refine hGx _ ?_ | refine hNx _ ?_ | refine hAx ?_ | refine hBx ?_ | skip)))); (try clear fs))
        (first | (show Q .ret _) | (show Q .normal _) | skip); refine hret _ _ (by first | exact .inr rfl | exact .inl rfl) (by first | rfl | assumption | (simp only [put_df, withH_df]; assumption)) ?_; have fs := hdf; refine evT ?_; clear fs
        exact ⟨_, Heap.le_refl _, hleS, _, frz_refl hleS, by rw [hfin hall]⟩
      have q6 : ((j : Int) < (ta.length : Int)) = True := eq_true (by omega)
      have w3 : IntKind.i64.wrap ((j : Int) + 1) = ((j + 1 : Nat) : Int) := by rw [wrap_i64_of (by omega)]; omega
      have hgj : (ta.map iD)[j]? = some (iD ta[j]) := by rw [List.getElem?_map, List.getElem?_eq_getElem hjl]; rfl
      have hxl : ta[j] ∈ ta := List.getElem_mem hjl
      have hxlt := hlt _ hxl
      (have fs := And.intro f0 (And.intro f2 (And.intro f7 (And.intro f8 (And.intro @i64.eq_1 (And.intro htal (And.intro q6 (And.intro hgj (And.intro hx (And.intro h00 hjl))))))))); (repeat (first | refine hGx _ ?_ | refine hNx _ ?_ | refine W_skip ?_ | refine W_exit ?_ | refine W_ret ?_ | refine W_label ?_ | refine W_scope ?_ | refine W_block ?_ | refine W_seq ?_ | ((first | refine tS fun N hNx => ?_ | refine WL_gE rfl rfl (by kernel_rfl) (by kernel_rfl) fun G hGx => ?_ | refine vcOpsS_sound (by kernel_rfl) ?_ | refine W_ifE fun A B hAx hBx => ?_); refine evT ?_; (first | refine hGx _ ?_ | refine hNx _ ?_ | refine hAx ?_ | refine hBx ?_ | skip)))); (try clear fs))
      refine (ih (ta[j] + 1).toNat (by omega) ta[j] r _ (by omega)).mono ?_
      rintro d _ ⟨rfl, rfl⟩
      by_cases hb : mentB ts ta[j] r = true
      · rw [hb]
        (have fs := @i64.eq_1; (repeat (first | refine hGx _ ?_ | refine hNx _ ?_ | refine W_skip ?_ | refine W_exit ?_ | refine W_ret ?_ | refine W_label ?_ | refine W_scope ?_ | refine W_block ?_ | refine W_seq ?_ | ((first | refine tS fun N hNx => ?_ | refine WL_gE rfl rfl (by kernel_rfl) (by kernel_rfl) fun G hGx => ?_ | refine vcOpsS_sound (by kernel_rfl) ?_ | refine W_ifE fun A B hAx hBx => ?_); refine evT ?_; (first | refine hGx _ ?_ | refine hNx _ ?_ | refine hAx ?_ | refine hBx ?_ | skip)))); (try clear fs))
        (first | (show Q .ret _) | (show Q .normal _) | skip); refine hret _ _ (by first | exact .inr rfl | exact .inl rfl) (by first | rfl | assumption | (simp only [put_df, withH_df]; assumption)) ?_; have fs := hdf; refine evT ?_; clear fs
        exact ⟨_, Heap.le_refl _, hleS, _, frz_refl hleS, by rw [hsome _ hxl hb]⟩
      · rw [Bool.not_eq_true] at hb
        rw [hb]
        (have fs := And.intro f8 (And.intro @i64.eq_1 w3); (repeat (first | refine hGx _ ?_ | refine hNx _ ?_ | refine W_skip ?_ | refine W_exit ?_ | refine W_ret ?_ | refine W_label ?_ | refine W_scope ?_ | refine W_block ?_ | refine W_seq ?_ | ((first | refine tS fun N hNx => ?_ | refine WL_gE rfl rfl (by kernel_rfl) (by kernel_rfl) fun G hGx => ?_ | refine vcOpsS_sound (by kernel_rfl) ?_ | refine W_ifE fun A B hAx hBx => ?_); refine evT ?_; (first | refine hGx _ ?_ | refine hNx _ ?_ | refine hAx ?_ | refine hBx ?_ | skip)))); (try clear fs))
        refine ⟨hjl, hdf, f0, f2, f7, rfl, hH, fun x hx => ?_⟩
        rw [List.take_succ_eq_append_getElem hjl] at hx
        rcases List.mem_append.1 hx with hx | hx
        · exact hall x hx
        · rw [List.mem_singleton] at hx; rw [hx]; exact hb
set_option maxHeartbeats 1000000 in
theorem kcop_N (ts : List TyS) (hw : wfT ts) (htl : ts.length ≤ 1000000) (har : ∀ t ∈ ts, t.ar.length ≤ 140737488351232) :
    ∀ (kk : Nat) (a : Int) (H : Heap), a < kk → Does Try.prog 46 [.seq 5 (ts.map tyD), i64 a] H fun d H' => d = .val (.bool (copB ts a)) ∧ H = H' := by
  intro kk
  induction kk using Nat.strongRecOn with
  | ind kk ih =>
    intro a H hak
    refine Does.frz (K := fun d => d = .val (.bool (copB ts a))) ?_
    have htyl : (List.map tyD ts).length = ts.length := List.length_map _
    have hle := Heap.le_refl H
    refine does_of _ _ Try.func46 rfl rfl Try.ntmps46 Try.results46 (by simp only [List.length_cons, List.length_nil]; omega) fun w0 Q hret => ?_
    by_cases h1 : 0 ≤ a
    case neg =>
      have hcb : copB ts a = false := copB_f.2 fun h => h1 h.1.1
      have q1 : (a < 0) = True := eq_true (by omega)
      (have fs := And.intro @i64.eq_1 (And.intro htyl q1); (repeat (first | refine hGx _ ?_ | refine hNx _ ?_ | refine W_skip ?_ | refine W_exit ?_ | refine W_ret ?_ | refine W_label ?_ | refine W_scope ?_ | refine W_block ?_ | refine W_seq ?_ | ((first | refine tS fun N hNx => ?_ | refine WL_gE rfl rfl (by kernel_rfl) (by kernel_rfl) fun G hGx => ?_ | refine vcOpsS_sound (by kernel_rfl) ?_ | refine W_ifE fun A B hAx hBx => ?_); refine evT ?_; (first | refine hGx _ ?_ | refine hNx _ ?_ | refine hAx ?_ | refine hBx ?_ | skip)))); (try clear fs))
      (first | (show Q .ret _) | (show Q .normal _) | skip); refine hret _ _ (by first | exact .inr rfl | exact .inl rfl) (by first | rfl | assumption | (simp only [put_df, withH_df]; assumption)) ?_; have fs := @i64.eq_1; refine evT ?_; clear fs
      exact ⟨_, Heap.le_refl _, hle, _, frz_refl hle, by rw [hcb]⟩
    have q1 : (a < 0) = False := eq_false (by omega)
    by_cases h2 : a < ts.length
    case neg =>
      have hcb : copB ts a = false := copB_f.2 fun h => h2 h.1.2
      have q2 : ((ts.length : Int) ≤ a) = True := eq_true (by omega)
      (have fs := And.intro @i64.eq_1 (And.intro htyl (And.intro q1 q2)); (repeat (first | refine hGx _ ?_ | refine hNx _ ?_ | refine W_skip ?_ | refine W_exit ?_ | refine W_ret ?_ | refine W_label ?_ | refine W_scope ?_ | refine W_block ?_ | refine W_seq ?_ | ((first | refine tS fun N hNx => ?_ | refine WL_gE rfl rfl (by kernel_rfl) (by kernel_rfl) fun G hGx => ?_ | refine vcOpsS_sound (by kernel_rfl) ?_ | refine W_ifE fun A B hAx hBx => ?_); refine evT ?_; (first | refine hGx _ ?_ | refine hNx _ ?_ | refine hAx ?_ | refine hBx ?_ | skip)))); (try clear fs))
      (first | (show Q .ret _) | (show Q .normal _) | skip); refine hret _ _ (by first | exact .inr rfl | exact .inl rfl) (by first | rfl | assumption | (simp only [put_df, withH_df]; assumption)) ?_; have fs := @i64.eq_1; refine evT ?_; clear fs
      exact ⟨_, Heap.le_refl _, hle, _, frz_refl hle, by rw [hcb]⟩
    have q2 : ((ts.length : Int) ≤ a) = False := eq_false (by omega)
    have ha : InR ts.length a := ⟨h1, h2⟩
    have hga := ty_get ha
    have hci := cop_iff hw ha
    have hdn := Dn.F hw a ha
    have hara : (tyAt ts a).ar.length ≤ 140737488351232 := har _ (tyAt_in ha)
    obtain ⟨t, ht⟩ : ∃ t, t = tyAt ts a := ⟨_, rfl⟩
    unfold parF at hdn
    rw [← ht] at hga hdn hara hci
    obtain ⟨tk, tm, tr, te, ta⟩ := t
    simp only [tyD] at hga
    simp only at hara
    have htal : (List.map iD ta).length = ta.length := List.length_map _
    have hal : a.toNat < ts.length := by omega
    have hal' : a < (ts.length : Int) := ha.2
    (have fs := And.intro @i64.eq_1 (And.intro htyl (And.intro q1 q2)); (repeat (first | refine hGx _ ?_ | refine hNx _ ?_ | refine W_skip ?_ | refine W_exit ?_ | refine W_ret ?_ | refine W_label ?_ | refine W_scope ?_ | refine W_block ?_ | refine W_seq ?_ | ((first | refine tS fun N hNx => ?_ | refine WL_gE rfl rfl (by kernel_rfl) (by kernel_rfl) fun G hGx => ?_ | refine vcOpsS_sound (by kernel_rfl) ?_ | refine W_ifE fun A B hAx hBx => ?_); refine evT ?_; (first | refine hGx _ ?_ | refine hNx _ ?_ | refine hAx ?_ | refine hBx ?_ | skip)))); (try clear fs))
    refine W_loopN ta.length (fun j s => s.df = [] ∧ s.fr 0 = .seq 5 (ts.map tyD) ∧ s.fr 1 = i64 a ∧ s.fr 5 = i64 j ∧ s.H = H ∧ ∀ x ∈ ta.take j, copB ts x = true) ⟨rfl, rfl, rfl, rfl, rfl, by simp⟩ ?_
    rintro j s hj ⟨hdf, f0, f1, f5, hH, hall⟩
    have hleS : H.le s.H := by rw [hH]; exact hle
    have hx : (j : Int).toNat = j := Int.toNat_natCast _
    have h00 : (0 : Int) ≤ (j : Int) := Int.natCast_nonneg _
    by_cases hjl : j < ta.length
    case neg =>
      have q6 : ((j : Int) < (ta.length : Int)) = False := eq_false (by omega)
      rw [List.take_of_length_le (by omega)] at hall
      by_cases h3 : tk = 3
      · have q3 : (tk = 3) = True := eq_true h3
        have hcb : copB ts a = !tm := by
          cases tm with
          | true => exact copB_f.2 fun h => (hci.1 h).1 ⟨h3, rfl⟩
          | false => exact copB_t.2 (hci.2 ⟨(fun h => by cases h.2), fun p hp => copB_t.1 (hall p hp)⟩)
        (have fs := And.intro f0 (And.intro f1 (And.intro f5 (And.intro @i64.eq_1 (And.intro htyl (And.intro hga (And.intro h1 (And.intro hal (And.intro hal' (And.intro q6 (And.intro htal q3)))))))))); (repeat (first | refine hGx _ ?_ | refine hNx _ ?_ | refine W_skip ?_ | refine W_exit ?_ | refine W_ret ?_ | refine W_label ?_ | refine W_scope ?_ | refine W_block ?_ | refine W_seq ?_ | ((first | refine tS fun N hNx => ?_ | refine WL_gE rfl rfl (by kernel_rfl) (by kernel_rfl) fun G hGx => ?_ | refine vcOpsS_sound (by kernel_rfl) ?_ | refine W_ifE fun A B hAx hBx => ?_); refine evT ?_; (first | refine hGx _ ?_ | refine hNx _ ?_ | refine hAx ?_ | refine hBx ?_ | skip)))); (try clear fs))
        (first | (show Q .ret _) | (show Q .normal _) | skip); refine hret _ _ (by first | exact .inr rfl | exact .inl rfl) (by first | rfl | assumption | (simp only [put_df, withH_df]; assumption)) ?_; have fs := hdf; refine evT ?_; clear fs
        exact ⟨_, Heap.le_refl _, hleS, _, frz_refl hleS, by rw [hcb]⟩
      · have q3 : (tk = 3) = False := eq_false h3
        have hcb : copB ts a = true := copB_t.2 (hci.2 ⟨fun h => h3 h.1, fun p hp => copB_t.1 (hall p hp)⟩)
        (have fs := And.intro f0 (And.intro f1 (And.intro f5 (And.intro @i64.eq_1 (And.intro htyl (And.intro hga (And.intro h1 (And.intro hal (And.intro hal' (And.intro q6 (And.intro htal q3)))))))))); (repeat (first | refine hGx _ ?_ | refine hNx _ ?_ | refine W_skip ?_ | refine W_exit ?_ | refine W_ret ?_ | refine W_label ?_ | refine W_scope ?_ | refine W_block ?_ | refine W_seq ?_ | ((first | refine tS fun N hNx => ?_ | refine WL_gE rfl rfl (by kernel_rfl) (by kernel_rfl) fun G hGx => ?_ | refine vcOpsS_sound (by kernel_rfl) ?_ | refine W_ifE fun A B hAx hBx => ?_); refine evT ?_; (first | refine hGx _ ?_ | refine hNx _ ?_ | refine hAx ?_ | refine hBx ?_ | skip)))); (try clear fs))
        (first | (show Q .ret _) | (show Q .normal _) | skip); refine hret _ _ (by first | exact .inr rfl | exact .inl rfl) (by first | rfl | assumption | (simp only [put_df, withH_df]; assumption)) ?_; have fs := hdf; refine evT ?_; clear fs
        exact ⟨_, Heap.le_refl _, hleS, _, frz_refl hleS, by rw [hcb]⟩
    have q6 : ((j : Int) < (ta.length : Int)) = True := eq_true (by omega)
    have w3 : IntKind.i64.wrap ((j : Int) + 1) = ((j + 1 : Nat) : Int) := by rw [wrap_i64_of (by omega)]; omega
    have hgj : (ta.map iD)[j]? = some (iD ta[j]) := by rw [List.getElem?_map, List.getElem?_eq_getElem hjl]; rfl
    have hxl : ta[j] ∈ ta := List.getElem_mem hjl
    have hxlt := hdn _ hxl
    (have fs := And.intro f0 (And.intro f1 (And.intro f5 (And.intro @i64.eq_1 (And.intro htyl (And.intro hga (And.intro h1 (And.intro hal (And.intro hal' (And.intro htal (And.intro q6 (And.intro hgj (And.intro hx (And.intro h00 hjl))))))))))))); (repeat (first | refine hGx _ ?_ | refine hNx _ ?_ | refine W_skip ?_ | refine W_exit ?_ | refine W_ret ?_ | refine W_label ?_ | refine W_scope ?_ | refine W_block ?_ | refine W_seq ?_ | ((first | refine tS fun N hNx => ?_ | refine WL_gE rfl rfl (by kernel_rfl) (by kernel_rfl) fun G hGx => ?_ | refine vcOpsS_sound (by kernel_rfl) ?_ | refine W_ifE fun A B hAx hBx => ?_); refine evT ?_; (first | refine hGx _ ?_ | refine hNx _ ?_ | refine hAx ?_ | refine hBx ?_ | skip)))); (try clear fs))
    refine (ih (ta[j] + 1).toNat (by omega) ta[j] _ (by omega)).mono ?_
    rintro d _ ⟨rfl, rfl⟩
    by_cases hb : copB ts ta[j] = true
    · rw [hb]
      (have fs := And.intro f5 (And.intro @i64.eq_1 w3); (repeat (first | refine hGx _ ?_ | refine hNx _ ?_ | refine W_skip ?_ | refine W_exit ?_ | refine W_ret ?_ | refine W_label ?_ | refine W_scope ?_ | refine W_block ?_ | refine W_seq ?_ | ((first | refine tS fun N hNx => ?_ | refine WL_gE rfl rfl (by kernel_rfl) (by kernel_rfl) fun G hGx => ?_ | refine vcOpsS_sound (by kernel_rfl) ?_ | refine W_ifE fun A B hAx hBx => ?_); refine evT ?_; (first | refine hGx _ ?_ | refine hNx _ ?_ | refine hAx ?_ | refine hBx ?_ | skip)))); (try clear fs))
      refine ⟨hjl, hdf, f0, f1, rfl, hH, fun x hx => ?_⟩
      rw [List.take_succ_eq_append_getElem hjl] at hx
      rcases List.mem_append.1 hx with hx | hx
      · exact hall x hx
      · rw [List.mem_singleton] at hx; rw [hx]; exact hb
    · rw [Bool.not_eq_true] at hb
      have hcb : copB ts a = false := copB_f.2 fun h => copB_f.1 hb ((hci.1 h).2 _ hxl)
      rw [hb]
      (have fs := @i64.eq_1; (repeat (first | refine hGx _ ?_ | refine hNx _ ?_ | refine W_skip ?_ | refine W_exit ?_ | refine W_ret ?_ | refine W_label ?_ | refine W_scope ?_ | refine W_block ?_ | refine W_seq ?_ | ((first | refine tS fun N hNx => ?_ | refine WL_gE rfl rfl (by kernel_rfl) (by kernel_rfl) fun G hGx => ?_ | refine vcOpsS_sound (by kernel_rfl) ?_ | refine W_ifE fun A B hAx hBx => ?_); refine evT ?_; (first | refine hGx _ ?_ | refine hNx _ ?_ | refine hAx ?_ | refine hBx ?_ | skip)))); (try clear fs))
      (first | (show Q .ret _) | (show Q .normal _) | skip); refine hret _ _ (by first | exact .inr rfl | exact .inl rfl) (by first | rfl | assumption | (simp only [put_df, withH_df]; assumption)) ?_; have fs := hdf; refine evT ?_; clear fs
      exact ⟨_, Heap.le_refl _, hleS, _, frz_refl hleS, by rw [hcb]⟩
end Go.Proofs.Ytbcghjcakincoaa
/- The reference of chapter 06: Regions. -/
namespace Go.Proofs.Ytbcghjcakincoaa
open Go.RowKit
set_option linter.unusedVariables false
set_option maxRecDepth 100000
set_option linter.unusedSimpArgs false
noncomputable def regN (ts : List TyS) (a : Int) (n : Nat) : List Int := ((List.range n).map Int.ofNat).filter fun r => mentB ts a r
theorem regN_succ (ts : List TyS) (a : Int) (n : Nat) : regN ts a (n + 1) = if mentB ts a n = true then regN ts a n ++ [(n : Int)] else regN ts a n := by
  unfold regN
  rw [List.range_succ, List.map_append, List.filter_append]
  by_cases h : mentB ts a n = true
  · rw [if_pos h]; simp [h]
  · rw [if_neg h]
    rw [Bool.not_eq_true] at h
    simp [h]
theorem regN_len (ts : List TyS) (a : Int) (n : Nat) : (regN ts a n).length ≤ n := by
  unfold regN
  refine Nat.le_trans (List.length_filter_le _ _) ?_
  simp
theorem regN_eq {ts : List TyS} {a : Int} {n : Nat} (hn : n ≤ 1000000) (hw : wfT ts) (hb : rbd ts n) : regN ts a n = regL ts a := by
  refine strict_eq ?_ (regL_strict ts a) fun x => ?_
  · refine List.Pairwise.filter _ ?_
    rw [List.pairwise_map]
    exact List.pairwise_lt_range.imp fun h => by show (_ : Int) < _; simp only [Int.ofNat_eq_natCast]; omega
  rw [regL_mem]
  unfold regN
  rw [List.mem_filter, List.mem_map, mentB_t]
  constructor
  · rintro ⟨⟨k, hk, rfl⟩, h⟩
    rw [List.mem_range] at hk
    exact ⟨⟨Int.natCast_nonneg _, by simp only [Int.ofNat_eq_natCast]; omega⟩, h⟩
  · rintro ⟨h1, hi, b, h2, h3, hr⟩
    refine ⟨?_, hi, b, h2, h3, hr⟩
    have := Rch.le (Dn.A hw) h2 hi
    have hin : InR ts.length b := ⟨this.1, by have := hi.2; omega⟩
    have := hb _ (tyAt_in hin) h3
    exact ⟨x.toNat, by rw [List.mem_range]; omega, by simp only [Int.ofNat_eq_natCast]; omega⟩
set_option maxHeartbeats 1000000 in
theorem kregs_N (ts : List TyS) (a : Int) (H : Heap) (hw : wfT ts) (hr : rfN ts) (hb : ∀ t ∈ ts, 0 ≤ t.r ∧ t.r < 100000) (htl : ts.length ≤ 1000000) (har : ∀ t ∈ ts, t.ar.length ≤ 140737488351232) :
    Does Try.prog 44 [.seq 5 (ts.map tyD), i64 a] H fun d H' => d = .seq 1 ((regL ts a).map iD) ∧ H = H' := by
  refine Does.frz (K := fun d => d = .seq 1 ((regL ts a).map iD)) ?_
  have htyl : (List.map tyD ts).length = ts.length := List.length_map _
  have hle := Heap.le_refl H
  refine does_of _ _ Try.func44 rfl rfl Try.ntmps44 Try.results44 (by simp only [List.length_cons, List.length_nil]; omega) fun w0 Q hret => ?_
  (have fs := @i64.eq_1; (repeat (first | refine hGx _ ?_ | refine hNx _ ?_ | refine W_skip ?_ | refine W_exit ?_ | refine W_ret ?_ | refine W_label ?_ | refine W_scope ?_ | refine W_block ?_ | refine W_seq ?_ | ((first | refine tS fun N hNx => ?_ | refine WL_gE rfl rfl (by kernel_rfl) (by kernel_rfl) fun G hGx => ?_ | refine vcOpsS_sound (by kernel_rfl) ?_ | refine W_ifE fun A B hAx hBx => ?_); refine evT ?_; (first | refine hGx _ ?_ | refine hNx _ ?_ | refine hAx ?_ | refine hBx ?_ | skip)))); (try clear fs))
  refine W_loopN ts.length (fun i s => s.df = [] ∧ s.fr 0 = .seq 5 (ts.map tyD) ∧ s.fr 1 = i64 a ∧ s.fr 5 = .val (.slice none 0 0) ∧ s.fr 7 = i64 i ∧ s.H = H ∧ ∃ m : Int, s.fr 6 = i64 m ∧ -1 ≤ m ∧ m < 100000 ∧ ∀ t ∈ ts.take i, t.r ≤ m) ⟨rfl, rfl, rfl, rfl, rfl, rfl, -1, rfl, by omega, by omega, by simp⟩ ?_
  rintro i s hi ⟨hdf, f0, f1, f5, f7, hH, m, f6, hm1, hm2, hmm⟩
  have hleS : H.le s.H := by rw [hH]; exact hle
  have hx : (i : Int).toNat = i := Int.toNat_natCast _
  have h00 : (0 : Int) ≤ (i : Int) := Int.natCast_nonneg _
  by_cases hil : i < ts.length
  case pos =>
    have q6 : ((i : Int) < (ts.length : Int)) = True := eq_true (by omega)
    have w3 : IntKind.i64.wrap ((i : Int) + 1) = ((i + 1 : Nat) : Int) := by rw [wrap_i64_of (by omega)]; omega
    have hgi : (ts.map tyD)[i]? = some (tyD ts[i]) := by rw [List.getElem?_map, List.getElem?_eq_getElem hil]; rfl
    have hbi := hb ts[i] (List.getElem_mem hil)
    obtain ⟨u, hu⟩ : ∃ u, u = ts[i] := ⟨_, rfl⟩
    rw [← hu] at hgi hbi
    obtain ⟨uk, um, ur, ue, ua⟩ := u
    simp only [tyD] at hgi hbi
    (have fs := And.intro f0 (And.intro f6 (And.intro f7 (And.intro @i64.eq_1 (And.intro htyl (And.intro q6 (And.intro hgi (And.intro hx (And.intro h00 (And.intro hil w3))))))))); (repeat (first | refine hGx _ ?_ | refine hNx _ ?_ | refine W_skip ?_ | refine W_exit ?_ | refine W_ret ?_ | refine W_label ?_ | refine W_scope ?_ | refine W_block ?_ | refine W_seq ?_ | ((first | refine tS fun N hNx => ?_ | refine WL_gE rfl rfl (by kernel_rfl) (by kernel_rfl) fun G hGx => ?_ | refine vcOpsS_sound (by kernel_rfl) ?_ | refine W_ifE fun A B hAx hBx => ?_); refine evT ?_; (first | refine hGx _ ?_ | refine hNx _ ?_ | refine hAx ?_ | refine hBx ?_ | skip)))); (try clear fs))
    refine ⟨hil, hdf, f0, f1, f5, rfl, hH, max m ur, ?_, by omega, by omega, fun t ht => ?_⟩
    · show D.val _ = i64 _
      unfold i64
      by_cases h : m < ur
      · rw [Int.max_eq_right (by omega)]; first | done | simp [h]
      · rw [Int.max_eq_left (by omega)]; first | done | simp [h]
    · rw [List.take_succ_eq_append_getElem hil] at ht
      rcases List.mem_append.1 ht with ht | ht
      · have := hmm t ht; omega
      · rw [List.mem_singleton] at ht; rw [ht, ← hu]; show ur ≤ _; omega
  have q6 : ((i : Int) < (ts.length : Int)) = False := eq_false (by omega)
  rw [List.take_of_length_le (by omega)] at hmm
  (have fs := And.intro f0 (And.intro f6 (And.intro f7 (And.intro @i64.eq_1 (And.intro htyl q6)))); (repeat (first | refine hGx _ ?_ | refine hNx _ ?_ | refine W_skip ?_ | refine W_exit ?_ | refine W_ret ?_ | refine W_label ?_ | refine W_scope ?_ | refine W_block ?_ | refine W_seq ?_ | ((first | refine tS fun N hNx => ?_ | refine WL_gE rfl rfl (by kernel_rfl) (by kernel_rfl) fun G hGx => ?_ | refine vcOpsS_sound (by kernel_rfl) ?_ | refine W_ifE fun A B hAx hBx => ?_); refine evT ?_; (first | refine hGx _ ?_ | refine hNx _ ?_ | refine hAx ?_ | refine hBx ?_ | skip)))); (try clear fs))
  obtain ⟨n, hn⟩ : ∃ n : Nat, (n : Int) = m + 1 := ⟨(m + 1).toNat, by omega⟩
  refine W_loopN n (fun i s => s.df = [] ∧ s.fr 0 = .seq 5 (ts.map tyD) ∧ s.fr 1 = i64 a ∧ s.fr 6 = i64 m ∧ s.fr 8 = i64 i ∧ H.le s.H ∧ ∃ ob, Gl H 3 1 ((regN ts a i).map iD) (s.fr 5) s.H ob) ⟨hdf, f0, f1, f6, rfl, hleS, none, by show Gl _ _ _ _ (s.fr 5) _ _; rw [f5]; exact Gl.nil _ _ _ _⟩ ?_
  rintro j s2 hj ⟨hdf2, g0, g1, g6, g8, gle, ob, hg⟩
  by_cases hjn : j < n
  case neg =>
    have hje : j = n := by omega
    have q7 : ((j : Int) ≤ m) = False := eq_false (by omega)
    (have fs := And.intro g6 (And.intro g8 (And.intro @i64.eq_1 q7)); (repeat (first | refine hGx _ ?_ | refine hNx _ ?_ | refine W_skip ?_ | refine W_exit ?_ | refine W_ret ?_ | refine W_label ?_ | refine W_scope ?_ | refine W_block ?_ | refine W_seq ?_ | ((first | refine tS fun N hNx => ?_ | refine WL_gE rfl rfl (by kernel_rfl) (by kernel_rfl) fun G hGx => ?_ | refine vcOpsS_sound (by kernel_rfl) ?_ | refine W_ifE fun A B hAx hBx => ?_); refine evT ?_; (first | refine hGx _ ?_ | refine hNx _ ?_ | refine hAx ?_ | refine hBx ?_ | skip)))); (try clear fs))
    (first | (show Q .ret _) | (show Q .normal _) | skip); refine hret _ _ (by first | exact .inr rfl | exact .inl rfl) (by first | rfl | assumption | (simp only [put_df, withH_df]; assumption)) ?_; have fs := hdf2; refine evT ?_; clear fs
    rw [hje, regN_eq (by omega) hw (fun t ht _ => by have := hb t ht; have := hmm t ht; omega)] at hg
    exact ⟨_, Heap.le_refl _, gle, _, frz_gl gle hg, rfl⟩
  have q7 : ((j : Int) ≤ m) = True := eq_true (by omega)
  have w3 : IntKind.i64.wrap ((j : Int) + 1) = ((j + 1 : Nat) : Int) := by rw [wrap_i64_of (by omega)]; omega
  obtain ⟨d5, hd5⟩ : ∃ d5, d5 = s2.fr 5 := ⟨_, rfl⟩
  have hnl := regN_len ts a j
  (have fs := And.intro g0 (And.intro g1 (And.intro g6 (And.intro g8 (And.intro @i64.eq_1 q7)))); (repeat (first | refine hGx _ ?_ | refine hNx _ ?_ | refine W_skip ?_ | refine W_exit ?_ | refine W_ret ?_ | refine W_label ?_ | refine W_scope ?_ | refine W_block ?_ | refine W_seq ?_ | ((first | refine tS fun N hNx => ?_ | refine WL_gE rfl rfl (by kernel_rfl) (by kernel_rfl) fun G hGx => ?_ | refine vcOpsS_sound (by kernel_rfl) ?_ | refine W_ifE fun A B hAx hBx => ?_); refine evT ?_; (first | refine hGx _ ?_ | refine hNx _ ?_ | refine hAx ?_ | refine hBx ?_ | skip)))); (try clear fs))
  refine (kment_N ts hw hr htl har (a + 1).toNat a j _ (by omega)).mono ?_
  rintro d _ ⟨rfl, rfl⟩
  by_cases hmb : mentB ts a j = true
  · rw [hmb]
    (have fs := And.intro g8 @i64.eq_1; (repeat (first | refine hGx _ ?_ | refine hNx _ ?_ | refine W_skip ?_ | refine W_exit ?_ | refine W_ret ?_ | refine W_label ?_ | refine W_scope ?_ | refine W_block ?_ | refine W_seq ?_ | ((first | refine tS fun N hNx => ?_ | refine WL_gE rfl rfl (by kernel_rfl) (by kernel_rfl) fun G hGx => ?_ | refine vcOpsS_sound (by kernel_rfl) ?_ | refine W_ifE fun A B hAx hBx => ?_); refine evT ?_; (first | refine hGx _ ?_ | refine hNx _ ?_ | refine hAx ?_ | refine hBx ?_ | skip)))); (try clear fs))
    refine apV_grow (e := 3) ty36 rfl ty36 rfl ty3 rfl (by decide) gle hg (new := [iD (j : Int)]) (by exact ⟨rfl, rfl⟩) (by rw [List.length_map]; show (_ + 1) * 8 ≤ _; omega) fun d H6 ob6 hg6 hle6 hp6 => ?_
    (have fs := And.intro g8 (And.intro @i64.eq_1 w3); (repeat (first | refine hGx _ ?_ | refine hNx _ ?_ | refine W_skip ?_ | refine W_exit ?_ | refine W_ret ?_ | refine W_label ?_ | refine W_scope ?_ | refine W_block ?_ | refine W_seq ?_ | ((first | refine tS fun N hNx => ?_ | refine WL_gE rfl rfl (by kernel_rfl) (by kernel_rfl) fun G hGx => ?_ | refine vcOpsS_sound (by kernel_rfl) ?_ | refine W_ifE fun A B hAx hBx => ?_); refine evT ?_; (first | refine hGx _ ?_ | refine hNx _ ?_ | refine hAx ?_ | refine hBx ?_ | skip)))); (try clear fs))
    exact ⟨hjn, hdf2, g0, g1, g6, rfl, hle6, ob6, by rw [regN_succ, if_pos hmb, List.map_append]; exact hg6⟩
  · rw [Bool.not_eq_true] at hmb
    rw [hmb]
    (have fs := And.intro g8 (And.intro @i64.eq_1 w3); (repeat (first | refine hGx _ ?_ | refine hNx _ ?_ | refine W_skip ?_ | refine W_exit ?_ | refine W_ret ?_ | refine W_label ?_ | refine W_scope ?_ | refine W_block ?_ | refine W_seq ?_ | ((first | refine tS fun N hNx => ?_ | refine WL_gE rfl rfl (by kernel_rfl) (by kernel_rfl) fun G hGx => ?_ | refine vcOpsS_sound (by kernel_rfl) ?_ | refine W_ifE fun A B hAx hBx => ?_); refine evT ?_; (first | refine hGx _ ?_ | refine hNx _ ?_ | refine hAx ?_ | refine hBx ?_ | skip)))); (try clear fs))
    exact ⟨hjn, hdf2, g0, g1, g6, rfl, gle, ob, by rw [regN_succ, if_neg (by rw [hmb]; simp)]; exact hg⟩
end Go.Proofs.Ytbcghjcakincoaa
