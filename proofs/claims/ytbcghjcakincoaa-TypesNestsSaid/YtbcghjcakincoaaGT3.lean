/- Lemmas and contracts of functions, several texts in one: U7. -/
import Derived.Test.YtbcghjcakincoaaGT2
/- types.Depth. -/
namespace Go.Proofs.Ytbcghjcakincoaa
open Go.RowKit
set_option linter.unusedVariables false
set_option maxRecDepth 100000
set_option linter.unusedSimpArgs false
def I64' (x : Int) : Prop := -9223372036854775808 ≤ x ∧ x ≤ 9223372036854775807
theorem upd_upd (H : Heap) (b : Nat) (x y : HObj) : (H.upd b x).upd b y = H.upd b y := by
  funext c
  by_cases e : c = b
  · rw [e, Heap.upd_same, Heap.upd_same]
  · rw [Heap.upd_ne e, Heap.upd_ne e, Heap.upd_ne e]
theorem upd_self {H : Heap} {b : Nat} {x : HObj} (h : H b = some x) : H.upd b x = H := by
  funext c
  by_cases e : c = b
  · rw [e, Heap.upd_same, h]
  · rw [Heap.upd_ne e]
/-- What the memo holds is right. -/
structure DM (M : List (Value × D)) (ts : List TyS) : Prop where
  keys : ∀ p ∈ M, ∃ x : Int, I64' x ∧ p.1 = .int .i64 x
  val : ∀ x d, mget M (.int .i64 x) = some d → d = i64 (depAt ts x)
theorem DM.nil (ts : List TyS) : DM [] ts := ⟨(fun p hp => by cases hp), fun x d h => by cases h⟩
theorem DM.ok {M : List (Value × D)} {ts : List TyS} (h : DM M ts) {x : Int} (hx : I64' x) : kOK Try.prog 3 M (.int .i64 x) :=
  ⟨Go.Maps.int_keyed Try.underlying3, keyOf_i64 Try.underlying3 hx, fun p hp => by obtain ⟨y, hy, e⟩ := h.keys p hp; rw [e]; exact keyOf_i64 Try.underlying3 hy⟩
theorem DM.set {M : List (Value × D)} {ts : List TyS} (h : DM M ts) {x : Int} (hx : I64' x) : DM (mset M (.int .i64 x) (i64 (depAt ts x))) ts where
  keys := fun p hp => by
    rcases mset_mem hp with rfl | hp
    · exact ⟨x, hx, rfl⟩
    · exact h.keys p hp
  val := fun y d hd => by
    by_cases e : y = x
    · subst e
      rw [mget_mset_same] at hd
      injection hd with hd
      exact hd.symm
    · rw [mget_mset_ne _ _ (fun he => e (by injection he with _ he; exact he.symm))] at hd
      exact h.val y d hd
set_option maxHeartbeats 1000000 in
theorem dep1_N (ts : List TyS) (bm bf : Nat) (hw : wfT ts) (hr : rfN ts) (htl : ts.length ≤ 1000000) (har : ∀ t ∈ ts, t.ar.length ≤ 140737488351232) (hbmf : bm ≠ bf) :
    ∀ (kk : Nat) (a : Int) (M : List (Value × D)) (H : Heap), InR ts.length a → a < kk → H bf = some (.row 116 0 1 [[.fn 82 [.rp [.val (.map (some bm))], .rp [.seq 5 (ts.map tyD)], .ep bf 0 1 0 0]]]) → H bm = some (.map M) → DM M ts →
      Does Try.prog 82 [i64 a, .rp [.val (.map (some bm))], .rp [.seq 5 (ts.map tyD)], .ep bf 0 1 0 0] H fun d H' => d = i64 (depAt ts a) ∧ ∃ M', H' = H.upd bm (.map M') ∧ DM M' ts := by
  intro kk
  induction kk using Nat.strongRecOn with
  | ind kk ih =>
    intro a M H ha hak hHf hHm hM
    have htyl : (List.map tyD ts).length = ts.length := List.length_map _
    have ha64 : I64' a := by unfold InR at ha; unfold I64'; omega
    have hkk := hM.ok ha64
    refine does_of _ _ Try.func82 rfl rfl Try.ntmps82 Try.results82 (by simp only [List.length_cons, List.length_nil]; omega) fun w0 Q hret => ?_
    cases hmg : mget M (.int .i64 a) with
    | some d =>
      have hv := hM.val a d hmg
      subst hv
      (have fs := And.intro @i64.eq_1 (And.intro hHm hmg); (repeat (first | refine hGx _ ?_ | refine hNx _ ?_ | refine W_skip ?_ | refine W_exit ?_ | refine W_ret ?_ | refine W_label ?_ | refine W_scope ?_ | refine W_block ?_ | refine W_seq ?_ | ((first | refine tS fun N hNx => ?_ | refine WL_gE rfl rfl (by kernel_rfl) (by kernel_rfl) fun G hGx => ?_ | refine vcOpsS_sound (by kernel_rfl) ?_ | refine W_ifE fun A B hAx hBx => ?_); refine evT ?_; (first | refine hGx _ ?_ | refine hNx _ ?_ | refine hAx ?_ | refine hBx ?_ | skip)))); (try clear fs))
      refine ⟨hkk, ?_⟩
      (have fs := @i64.eq_1; (repeat (first | refine hGx _ ?_ | refine hNx _ ?_ | refine W_skip ?_ | refine W_exit ?_ | refine W_ret ?_ | refine W_label ?_ | refine W_scope ?_ | refine W_block ?_ | refine W_seq ?_ | ((first | refine tS fun N hNx => ?_ | refine WL_gE rfl rfl (by kernel_rfl) (by kernel_rfl) fun G hGx => ?_ | refine vcOpsS_sound (by kernel_rfl) ?_ | refine W_ifE fun A B hAx hBx => ?_); refine evT ?_; (first | refine hGx _ ?_ | refine hNx _ ?_ | refine hAx ?_ | refine hBx ?_ | skip)))); (try clear fs))
      (first | (show Q .ret _) | (show Q .normal _) | skip); refine hret _ _ (by first | exact .inr rfl | exact .inl rfl) (by first | rfl | assumption | (simp only [put_df, withH_df]; assumption)) ?_; have fs := @i64.eq_1; refine evT ?_; clear fs
      exact ⟨_, Heap.le_refl _, M, (upd_self hHm).symm, hM⟩
    | none =>
      (have fs := And.intro @i64.eq_1 (And.intro hHm hmg); (repeat (first | refine hGx _ ?_ | refine hNx _ ?_ | refine W_skip ?_ | refine W_exit ?_ | refine W_ret ?_ | refine W_label ?_ | refine W_scope ?_ | refine W_block ?_ | refine W_seq ?_ | ((first | refine tS fun N hNx => ?_ | refine WL_gE rfl rfl (by kernel_rfl) (by kernel_rfl) fun G hGx => ?_ | refine vcOpsS_sound (by kernel_rfl) ?_ | refine W_ifE fun A B hAx hBx => ?_); refine evT ?_; (first | refine hGx _ ?_ | refine hNx _ ?_ | refine hAx ?_ | refine hBx ?_ | skip)))); (try clear fs))
      refine ⟨hkk, ?_⟩
      have hga := ty_get ha
      have hpar := depAt_par hw hr ha
      have hdn := Dn.A hw a ha
      have hara : (tyAt ts a).ar.length ≤ 140737488351232 := har _ (tyAt_in ha)
      have hpl : (parA (tyAt ts a)).length ≤ 140737488351232 := by unfold parA; split <;> first | exact hara | simp
      have hcp := parts_N (tyAt ts a)
      obtain ⟨t, ht⟩ : ∃ t, t = tyAt ts a := ⟨_, rfl⟩
      rw [← ht] at hga hpar hdn hara hcp hpl
      obtain ⟨pa, hpa⟩ : ∃ pa, pa = parA t := ⟨_, rfl⟩
      rw [← hpa] at hpar hdn hcp hpl
      obtain ⟨tk, tm, tr, te, ta⟩ := t
      simp only [tyD] at hga hcp
      have h0a : 0 ≤ a := ha.1
      have hal : a.toNat < ts.length := by unfold InR at ha; omega
      have hal' : a < (ts.length : Int) := ha.2
      have hpll : (List.map iD pa).length = pa.length := List.length_map _
      (have fs := And.intro @i64.eq_1 (And.intro hga (And.intro h0a (And.intro hal (And.intro hal' htyl)))); (repeat (first | refine hGx _ ?_ | refine hNx _ ?_ | refine W_skip ?_ | refine W_exit ?_ | refine W_ret ?_ | refine W_label ?_ | refine W_scope ?_ | refine W_block ?_ | refine W_seq ?_ | ((first | refine tS fun N hNx => ?_ | refine WL_gE rfl rfl (by kernel_rfl) (by kernel_rfl) fun G hGx => ?_ | refine vcOpsS_sound (by kernel_rfl) ?_ | refine W_ifE fun A B hAx hBx => ?_); refine evT ?_; (first | refine hGx _ ?_ | refine hNx _ ?_ | refine hAx ?_ | refine hBx ?_ | skip)))); (try clear fs))
      refine (hcp H).mono ?_
      rintro d _ ⟨rfl, rfl⟩
      (have fs := And.intro @i64.eq_1 hpll; (repeat (first | refine hGx _ ?_ | refine hNx _ ?_ | refine W_skip ?_ | refine W_exit ?_ | refine W_ret ?_ | refine W_label ?_ | refine W_scope ?_ | refine W_block ?_ | refine W_seq ?_ | ((first | refine tS fun N hNx => ?_ | refine WL_gE rfl rfl (by kernel_rfl) (by kernel_rfl) fun G hGx => ?_ | refine vcOpsS_sound (by kernel_rfl) ?_ | refine W_ifE fun A B hAx hBx => ?_); refine evT ?_; (first | refine hGx _ ?_ | refine hNx _ ?_ | refine hAx ?_ | refine hBx ?_ | skip)))); (try clear fs))
      refine W_loopN pa.length (fun j s => s.df = [] ∧ s.fr 0 = i64 a ∧ s.fr 1 = .rp [.val (.map (some bm))] ∧ s.fr 2 = .rp [.seq 5 (ts.map tyD)] ∧ s.fr 3 = .ep bf 0 1 0 0 ∧ s.fr 8 = i64 ((pa.take j).foldl (fun k f => max k (depAt ts f)) 0) ∧ s.fr 23 = .seq 1 (pa.map iD) ∧ s.fr 24 = i64 pa.length ∧ s.fr 25 = i64 j ∧ ∃ M, s.H = H.upd bm (.map M) ∧ DM M ts) ⟨rfl, rfl, rfl, rfl, rfl, rfl, rfl, rfl, rfl, M, (upd_self hHm).symm, hM⟩ ?_
      rintro j s hj ⟨hdf, f0, f1, f2, f3, f8, f23, f24, f25, M2, hH2, hM2⟩
      have hHm2 : s.H bm = some (.map M2) := by rw [hH2]; exact Heap.upd_same _ _ _
      have hHf2 : s.H bf = some (.row 116 0 1 [[.fn 82 [.rp [.val (.map (some bm))], .rp [.seq 5 (ts.map tyD)], .ep bf 0 1 0 0]]]) := by rw [hH2]; exact (Heap.upd_ne hbmf.symm).trans hHf
      have hx : (j : Int).toNat = j := Int.toNat_natCast _
      have h00 : (0 : Int) ≤ (j : Int) := Int.natCast_nonneg _
      by_cases hjl : j < pa.length
      case neg =>
        have q1 : ((j : Int) < (pa.length : Int)) = False := eq_false (by omega)
        rw [List.take_of_length_le (by omega)] at f8
        have hbd := depAt_bd (ts := ts) a
        have w3 : IntKind.i64.wrap (pa.foldl (fun k f => max k (depAt ts f)) 0 + 1) = depAt ts a := by rw [← hpar]; exact wrap_i64_of (by omega)
        obtain ⟨fo, hfo⟩ : ∃ fo, fo = pa.foldl (fun k f => max k (depAt ts f)) 0 := ⟨_, rfl⟩
        rw [← hfo] at f8 w3
        (have fs := And.intro f0 (And.intro f1 (And.intro f8 (And.intro f24 (And.intro f25 (And.intro @i64.eq_1 (And.intro q1 (And.intro w3 hHm2))))))); (repeat (first | refine hGx _ ?_ | refine hNx _ ?_ | refine W_skip ?_ | refine W_exit ?_ | refine W_ret ?_ | refine W_label ?_ | refine W_scope ?_ | refine W_block ?_ | refine W_seq ?_ | ((first | refine tS fun N hNx => ?_ | refine WL_gE rfl rfl (by kernel_rfl) (by kernel_rfl) fun G hGx => ?_ | refine vcOpsS_sound (by kernel_rfl) ?_ | refine W_ifE fun A B hAx hBx => ?_); refine evT ?_; (first | refine hGx _ ?_ | refine hNx _ ?_ | refine hAx ?_ | refine hBx ?_ | skip)))); (try clear fs))
        refine ⟨hM2.ok ha64, ?_⟩
        (have fs := And.intro f8 (And.intro @i64.eq_1 w3); (repeat (first | refine hGx _ ?_ | refine hNx _ ?_ | refine W_skip ?_ | refine W_exit ?_ | refine W_ret ?_ | refine W_label ?_ | refine W_scope ?_ | refine W_block ?_ | refine W_seq ?_ | ((first | refine tS fun N hNx => ?_ | refine WL_gE rfl rfl (by kernel_rfl) (by kernel_rfl) fun G hGx => ?_ | refine vcOpsS_sound (by kernel_rfl) ?_ | refine W_ifE fun A B hAx hBx => ?_); refine evT ?_; (first | refine hGx _ ?_ | refine hNx _ ?_ | refine hAx ?_ | refine hBx ?_ | skip)))); (try clear fs))
        (first | (show Q .ret _) | (show Q .normal _) | skip); refine hret _ _ (by first | exact .inr rfl | exact .inl rfl) (by first | rfl | assumption | (simp only [put_df, withH_df]; assumption)) ?_; have fs := hdf; refine evT ?_; clear fs
        exact ⟨_, Heap.le_refl _, rfl, _, by rw [hH2]; exact upd_upd _ _ _ _, hM2.set ha64⟩
      have q1 : ((j : Int) < (pa.length : Int)) = True := eq_true (by omega)
      have w3 : IntKind.i64.wrap ((j : Int) + 1) = ((j + 1 : Nat) : Int) := by rw [wrap_i64_of (by omega)]; omega
      have hgi := get_ints hjl
      have hdj := hdn pa[j] (List.getElem_mem hjl)
      have hfold : (pa.take (j + 1)).foldl (fun k f => max k (depAt ts f)) 0 = max ((pa.take j).foldl (fun k f => max k (depAt ts f)) 0) (depAt ts pa[j]) := by
        rw [List.take_succ_eq_append_getElem hjl, List.foldl_append]; rfl
      obtain ⟨f, hf⟩ : ∃ f, f = pa[j] := ⟨_, rfl⟩
      rw [← hf] at hgi hdj hfold
      obtain ⟨mx, hmx⟩ : ∃ mx, mx = (pa.take j).foldl (fun k f => max k (depAt ts f)) 0 := ⟨_, rfl⟩
      rw [← hmx] at f8 hfold
      (have fs := And.intro f3 (And.intro f8 (And.intro f23 (And.intro f24 (And.intro f25 (And.intro @i64.eq_1 (And.intro q1 (And.intro hgi (And.intro hx (And.intro h00 (And.intro hjl (And.intro hpll hHf2))))))))))); (repeat (first | refine hGx _ ?_ | refine hNx _ ?_ | refine W_skip ?_ | refine W_exit ?_ | refine W_ret ?_ | refine W_label ?_ | refine W_scope ?_ | refine W_block ?_ | refine W_seq ?_ | ((first | refine tS fun N hNx => ?_ | refine WL_gE rfl rfl (by kernel_rfl) (by kernel_rfl) fun G hGx => ?_ | refine vcOpsS_sound (by kernel_rfl) ?_ | refine W_ifE fun A B hAx hBx => ?_); refine evT ?_; (first | refine hGx _ ?_ | refine hNx _ ?_ | refine hAx ?_ | refine hBx ?_ | skip)))); (try clear fs))
      refine (ih (kk - 1) (by omega) f M2 _ ⟨hdj.1, by omega⟩ (by omega) hHf2 hHm2 hM2).mono ?_
      rintro d _ ⟨rfl, M3, rfl, hM3⟩
      (have fs := And.intro f25 (And.intro @i64.eq_1 w3); (repeat (first | refine hGx _ ?_ | refine hNx _ ?_ | refine W_skip ?_ | refine W_exit ?_ | refine W_ret ?_ | refine W_label ?_ | refine W_scope ?_ | refine W_block ?_ | refine W_seq ?_ | ((first | refine tS fun N hNx => ?_ | refine WL_gE rfl rfl (by kernel_rfl) (by kernel_rfl) fun G hGx => ?_ | refine vcOpsS_sound (by kernel_rfl) ?_ | refine W_ifE fun A B hAx hBx => ?_); refine evT ?_; (first | refine hGx _ ?_ | refine hNx _ ?_ | refine hAx ?_ | refine hBx ?_ | skip)))); (try clear fs))
      exact ⟨hjl, hdf, f0, f1, f2, f3, by rw [hfold]; rfl, f23, f24, rfl, M3, by rw [hH2]; exact upd_upd _ _ _ _, hM3⟩
set_option maxHeartbeats 1000000 in
theorem dep_N (ts : List TyS) (a : Int) (H : Heap) (hw : wfT ts) (hr : rfN ts) (htl : ts.length ≤ 1000000) (har : ∀ t ∈ ts, t.ar.length ≤ 140737488351232) :
    Does Try.prog 40 [.seq 5 (ts.map tyD), i64 a] H fun d H' => d = i64 (depAt ts a) ∧ H = H' := by
  refine Does.frz (K := fun d => d = i64 (depAt ts a)) ?_
  have htyl : (List.map tyD ts).length = ts.length := List.length_map _
  have hle := Heap.le_refl H
  have hda : depAt ts a = if InR ts.length a then (depL ts).getD a.toNat 0 else 0 := rfl
  refine does_of _ _ Try.func40 rfl rfl Try.ntmps40 Try.results40 (by simp only [List.length_cons, List.length_nil]; omega) fun w0 Q hret => ?_
  (have fs := @i64.eq_1; (repeat (first | refine hGx _ ?_ | refine hNx _ ?_ | refine W_skip ?_ | refine W_exit ?_ | refine W_ret ?_ | refine W_label ?_ | refine W_scope ?_ | refine W_block ?_ | refine W_seq ?_ | ((first | refine tS fun N hNx => ?_ | refine WL_gE rfl rfl (by kernel_rfl) (by kernel_rfl) fun G hGx => ?_ | refine vcOpsS_sound (by kernel_rfl) ?_ | refine W_ifE fun A B hAx hBx => ?_); refine evT ?_; (first | refine hGx _ ?_ | refine hNx _ ?_ | refine hAx ?_ | refine hBx ?_ | skip)))); (try clear fs))
  intro c2 hc2
  refine hNx _ ?_
  refine W_frzp 2 rfl (Heap.upd_same _ _ _) rfl ?_; simp only [St.frzp, put_H, wdf_H, withH_H, withH_put, wdf_withH, withH_withH, init_H, init_withH, Heap.del_upd_same, Heap.del_none hc2, withH_self]
  by_cases h1 : a < 0
  · have q1 : (a < 0) = True := eq_true h1
    rw [if_neg (fun h => by have := h.1; omega)] at hda
    (have fs := And.intro @i64.eq_1 q1; (repeat (first | refine hGx _ ?_ | refine hNx _ ?_ | refine W_skip ?_ | refine W_exit ?_ | refine W_ret ?_ | refine W_label ?_ | refine W_scope ?_ | refine W_block ?_ | refine W_seq ?_ | ((first | refine tS fun N hNx => ?_ | refine WL_gE rfl rfl (by kernel_rfl) (by kernel_rfl) fun G hGx => ?_ | refine vcOpsS_sound (by kernel_rfl) ?_ | refine W_ifE fun A B hAx hBx => ?_); refine evT ?_; (first | refine hGx _ ?_ | refine hNx _ ?_ | refine hAx ?_ | refine hBx ?_ | skip)))); (try clear fs))
    (first | (show Q .ret _) | (show Q .normal _) | skip); refine hret _ _ (by first | exact .inr rfl | exact .inl rfl) (by first | rfl | assumption | (simp only [put_df, withH_df]; assumption)) ?_; have fs := @i64.eq_1; refine evT ?_; clear fs
    exact ⟨_, Heap.le_refl _, hle, _, frz_refl hle, by rw [hda]⟩
  have q1 : (a < 0) = False := eq_false h1
  by_cases h2 : (ts.length : Int) ≤ a
  · have q2 : ((ts.length : Int) ≤ a) = True := eq_true h2
    rw [if_neg (fun h => by have := h.2; omega)] at hda
    (have fs := And.intro @i64.eq_1 (And.intro q1 (And.intro q2 htyl)); (repeat (first | refine hGx _ ?_ | refine hNx _ ?_ | refine W_skip ?_ | refine W_exit ?_ | refine W_ret ?_ | refine W_label ?_ | refine W_scope ?_ | refine W_block ?_ | refine W_seq ?_ | ((first | refine tS fun N hNx => ?_ | refine WL_gE rfl rfl (by kernel_rfl) (by kernel_rfl) fun G hGx => ?_ | refine vcOpsS_sound (by kernel_rfl) ?_ | refine W_ifE fun A B hAx hBx => ?_); refine evT ?_; (first | refine hGx _ ?_ | refine hNx _ ?_ | refine hAx ?_ | refine hBx ?_ | skip)))); (try clear fs))
    (first | (show Q .ret _) | (show Q .normal _) | skip); refine hret _ _ (by first | exact .inr rfl | exact .inl rfl) (by first | rfl | assumption | (simp only [put_df, withH_df]; assumption)) ?_; have fs := @i64.eq_1; refine evT ?_; clear fs
    exact ⟨_, Heap.le_refl _, hle, _, frz_refl hle, by rw [hda]⟩
  have q2 : ((ts.length : Int) ≤ a) = False := eq_false h2
  (have fs := And.intro @i64.eq_1 (And.intro q1 (And.intro q2 htyl)); (repeat (first | refine hGx _ ?_ | refine hNx _ ?_ | refine W_skip ?_ | refine W_exit ?_ | refine W_ret ?_ | refine W_label ?_ | refine W_scope ?_ | refine W_block ?_ | refine W_seq ?_ | ((first | refine tS fun N hNx => ?_ | refine WL_gE rfl rfl (by kernel_rfl) (by kernel_rfl) fun G hGx => ?_ | refine vcOpsS_sound (by kernel_rfl) ?_ | refine W_ifE fun A B hAx hBx => ?_); refine evT ?_; (first | refine hGx _ ?_ | refine hNx _ ?_ | refine hAx ?_ | refine hBx ?_ | skip)))); (try clear fs))
  intro bm hbm b5 hb5
  have hb50 : (H.upd bm (.map [])) b5 = none := hb5
  refine hNx _ ?_
  refine W_frzp 5 rfl (Heap.upd_same _ _ _) rfl ?_
  refine W_less (H.upd bm (.map [])) (fun x z hz => ?_) ?_
  · have e1 : x ≠ b5 := fun e => by rw [e, hb50] at hz; cases hz
    show (((H.upd bm _).upd b5 _).del b5) x = _
    rw [Heap.del_ne e1, Heap.upd_ne e1]
    exact hz
  simp only [St.frzp, List.drop]
  (have fs := @i64.eq_1; (repeat (first | refine hGx _ ?_ | refine hNx _ ?_ | refine W_skip ?_ | refine W_exit ?_ | refine W_ret ?_ | refine W_label ?_ | refine W_scope ?_ | refine W_block ?_ | refine W_seq ?_ | ((first | refine tS fun N hNx => ?_ | refine WL_gE rfl rfl (by kernel_rfl) (by kernel_rfl) fun G hGx => ?_ | refine vcOpsS_sound (by kernel_rfl) ?_ | refine W_ifE fun A B hAx hBx => ?_); refine evT ?_; (first | refine hGx _ ?_ | refine hNx _ ?_ | refine hAx ?_ | refine hBx ?_ | skip)))); (try clear fs))
  intro bf hbf
  (have fs := @i64.eq_1; (repeat (first | refine hGx _ ?_ | refine hNx _ ?_ | refine W_skip ?_ | refine W_exit ?_ | refine W_ret ?_ | refine W_label ?_ | refine W_scope ?_ | refine W_block ?_ | refine W_seq ?_ | ((first | refine tS fun N hNx => ?_ | refine WL_gE rfl rfl (by kernel_rfl) (by kernel_rfl) fun G hGx => ?_ | refine vcOpsS_sound (by kernel_rfl) ?_ | refine W_ifE fun A B hAx hBx => ?_); refine evT ?_; (first | refine hGx _ ?_ | refine hNx _ ?_ | refine hAx ?_ | refine hBx ?_ | skip)))); (try clear fs))
  have hbmf : bm ≠ bf := Heap.ne_of (Heap.upd_same _ _ _) hbf
  have hbf0 : H bf = none := (Heap.upd_none.1 hbf).2
  refine (dep1_N ts bm bf hw hr htl har hbmf ts.length a [] _ ⟨by omega, by omega⟩ (by omega) (Heap.upd_same _ _ _) ((Heap.upd_ne hbmf).trans (Heap.upd_same _ _ _)) (DM.nil _)).mono ?_
  rintro d _ ⟨rfl, M', rfl, hM'⟩
  (have fs := @i64.eq_1; (repeat (first | refine hGx _ ?_ | refine hNx _ ?_ | refine W_skip ?_ | refine W_exit ?_ | refine W_ret ?_ | refine W_label ?_ | refine W_scope ?_ | refine W_block ?_ | refine W_seq ?_ | ((first | refine tS fun N hNx => ?_ | refine WL_gE rfl rfl (by kernel_rfl) (by kernel_rfl) fun G hGx => ?_ | refine vcOpsS_sound (by kernel_rfl) ?_ | refine W_ifE fun A B hAx hBx => ?_); refine evT ?_; (first | refine hGx _ ?_ | refine hNx _ ?_ | refine hAx ?_ | refine hBx ?_ | skip)))); (try clear fs))
  (first | (show Q .ret _) | (show Q .normal _) | skip); refine hret _ _ (by first | exact .inr rfl | exact .inl rfl) (by first | rfl | assumption | (simp only [put_df, withH_df]; assumption)) ?_; have fs := @i64.eq_1; refine evT ?_; clear fs
  have hle : H.le (((H.upd bm (.map [])).upd bf (.row 116 0 1 [[.fn 82 [.rp [.val (.map (some bm))], .rp [.seq 5 (ts.map tyD)], .ep bf 0 1 0 0]]])).upd bm (.map M')) := Heap.le_put (Heap.le_put (Heap.le_put (Heap.le_refl _) hbm) hbf0) hbm
  exact ⟨_, Heap.le_refl _, hle, _, frz_refl hle, rfl⟩
end Go.Proofs.Ytbcghjcakincoaa
