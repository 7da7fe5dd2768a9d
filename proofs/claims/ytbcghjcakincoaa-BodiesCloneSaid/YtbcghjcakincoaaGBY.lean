/- Lemmas and contracts of functions, several texts in one: Y2 Y3 Y4. -/
import Derived.Test.YtbcghjcakincoaaGY
import Derived.Test.YtbcghjcakincoaaGI
/- The reference's Equal and Find of types. -/
namespace Go.Proofs.Ytbcghjcakincoaa
open Go.RowKit
set_option linter.unusedVariables false
set_option maxRecDepth 100000
set_option linter.unusedSimpArgs false
theorem tyS_ext {a b : TyS} : a = b ↔ a.k = b.k ∧ a.m = b.m ∧ a.r = b.r ∧ a.e = b.e ∧ a.ar = b.ar := by
  cases a; cases b; simp
theorem take_snoc_eq {l m : List Int} {i : Nat} (h : l.take i = m.take i) (h1 : i < l.length) (h2 : i < m.length) (he : l[i] = m[i]) : l.take (i + 1) = m.take (i + 1) := by
  rw [List.take_succ_eq_append_getElem h1, List.take_succ_eq_append_getElem h2, h, he]
set_option maxHeartbeats 1000000 in
theorem kteq_N (a b : TyS) (H : Heap) (hal : a.ar.length ≤ 140737488351232) : Does Try.prog 38 [.agg (tyD a), .agg (tyD b)] H fun d H' => d = .val (.bool (decide (a = b))) ∧ H = H' := by
  refine Does.frz (K := fun d => d = .val (.bool (decide (a = b)))) ?_
  obtain ⟨ak, am, ar, ae, aa⟩ := a
  obtain ⟨bk, bm, br, be, ba⟩ := b
  have hext := tyS_ext (a := ⟨ak, am, ar, ae, aa⟩) (b := ⟨bk, bm, br, be, ba⟩)
  simp only at hext hal
  simp only [tyD]
  have hla : (List.map iD aa).length = aa.length := List.length_map _
  have hlb : (List.map iD ba).length = ba.length := List.length_map _
  have hle := Heap.le_refl H
  refine does_of _ _ Try.func38 rfl rfl Try.ntmps38 Try.results38 (by simp only [List.length_cons, List.length_nil]; omega) fun w0 Q hret => ?_
  (have fs := @i64.eq_1; (repeat (first | refine hGx _ ?_ | refine hNx _ ?_ | refine W_skip ?_ | refine W_exit ?_ | refine W_ret ?_ | refine W_label ?_ | refine W_scope ?_ | refine W_block ?_ | refine W_seq ?_ | ((first | refine tS fun N hNx => ?_ | refine WL_gE rfl rfl (by kernel_rfl) (by kernel_rfl) fun G hGx => ?_ | refine vcOpsS_sound (by kernel_rfl) ?_ | refine W_ifE fun A B hAx hBx => ?_); refine evT ?_; (first | refine hGx _ ?_ | refine hNx _ ?_ | refine hAx ?_ | refine hBx ?_ | skip)))); (try clear fs))
  intro c2 hc2 c3 hc3
  have hne : c2 ≠ c3 := Heap.ne_of (Heap.upd_same _ _ _) hc3
  have hc30 : H c3 = none := (Heap.upd_none.1 hc3).2
  refine hNx _ ?_
  refine W_frzp 2 rfl ((Heap.upd_ne hne).trans (Heap.upd_same _ _ _)) rfl ?_
  refine W_frzp 3 rfl ((Heap.del_ne hne.symm).trans (Heap.upd_same _ _ _)) rfl ?_
  refine W_less H (fun x z hz => ?_) ?_
  · have e1 : x ≠ c2 := fun e => by rw [e, hc2] at hz; cases hz
    have e2 : x ≠ c3 := fun e => by rw [e, hc30] at hz; cases hz
    show ((((H.upd c2 _).upd c3 _).del c2).del c3) x = _
    rw [Heap.del_ne e2, Heap.del_ne e1, Heap.upd_ne e2, Heap.upd_ne e1]
    exact hz
  simp only [St.frzp, List.drop]
  by_cases g1 : ak = bk
  case neg =>
    have q1 : (ak = bk) = False := eq_false g1
    have hres : decide ((⟨ak, am, ar, ae, aa⟩ : TyS) = ⟨bk, bm, br, be, ba⟩) = false := decide_eq_false fun h => g1 (hext.1 h).1
    (have fs := And.intro @i64.eq_1 q1; (repeat (first | refine hGx _ ?_ | refine hNx _ ?_ | refine W_skip ?_ | refine W_exit ?_ | refine W_ret ?_ | refine W_label ?_ | refine W_scope ?_ | refine W_block ?_ | refine W_seq ?_ | ((first | refine tS fun N hNx => ?_ | refine WL_gE rfl rfl (by kernel_rfl) (by kernel_rfl) fun G hGx => ?_ | refine vcOpsS_sound (by kernel_rfl) ?_ | refine W_ifE fun A B hAx hBx => ?_); refine evT ?_; (first | refine hGx _ ?_ | refine hNx _ ?_ | refine hAx ?_ | refine hBx ?_ | skip)))); (try clear fs)); (first | (show Q .ret _) | (show Q .normal _) | skip); refine hret _ _ (by first | exact .inr rfl | exact .inl rfl) (by first | rfl | assumption | (simp only [put_df, withH_df]; assumption)) ?_; have fs := @i64.eq_1; refine evT ?_; clear fs; exact ⟨_, Heap.le_refl _, hle, _, frz_refl hle, by rw [hres]⟩
  have q1 : (ak = bk) = True := eq_true g1
  by_cases g2 : am = bm
  case neg =>
    have q2 : (am = bm) = False := eq_false g2
    have hres : decide ((⟨ak, am, ar, ae, aa⟩ : TyS) = ⟨bk, bm, br, be, ba⟩) = false := decide_eq_false fun h => g2 (hext.1 h).2.1
    (have fs := And.intro @i64.eq_1 (And.intro q1 q2); (repeat (first | refine hGx _ ?_ | refine hNx _ ?_ | refine W_skip ?_ | refine W_exit ?_ | refine W_ret ?_ | refine W_label ?_ | refine W_scope ?_ | refine W_block ?_ | refine W_seq ?_ | ((first | refine tS fun N hNx => ?_ | refine WL_gE rfl rfl (by kernel_rfl) (by kernel_rfl) fun G hGx => ?_ | refine vcOpsS_sound (by kernel_rfl) ?_ | refine W_ifE fun A B hAx hBx => ?_); refine evT ?_; (first | refine hGx _ ?_ | refine hNx _ ?_ | refine hAx ?_ | refine hBx ?_ | skip)))); (try clear fs)); (first | (show Q .ret _) | (show Q .normal _) | skip); refine hret _ _ (by first | exact .inr rfl | exact .inl rfl) (by first | rfl | assumption | (simp only [put_df, withH_df]; assumption)) ?_; have fs := @i64.eq_1; refine evT ?_; clear fs; exact ⟨_, Heap.le_refl _, hle, _, frz_refl hle, by rw [hres]⟩
  have q2 : (am = bm) = True := eq_true g2
  by_cases g3 : ar = br
  case neg =>
    have q3 : (ar = br) = False := eq_false g3
    have hres : decide ((⟨ak, am, ar, ae, aa⟩ : TyS) = ⟨bk, bm, br, be, ba⟩) = false := decide_eq_false fun h => g3 (hext.1 h).2.2.1
    (have fs := And.intro @i64.eq_1 (And.intro q1 (And.intro q2 q3)); (repeat (first | refine hGx _ ?_ | refine hNx _ ?_ | refine W_skip ?_ | refine W_exit ?_ | refine W_ret ?_ | refine W_label ?_ | refine W_scope ?_ | refine W_block ?_ | refine W_seq ?_ | ((first | refine tS fun N hNx => ?_ | refine WL_gE rfl rfl (by kernel_rfl) (by kernel_rfl) fun G hGx => ?_ | refine vcOpsS_sound (by kernel_rfl) ?_ | refine W_ifE fun A B hAx hBx => ?_); refine evT ?_; (first | refine hGx _ ?_ | refine hNx _ ?_ | refine hAx ?_ | refine hBx ?_ | skip)))); (try clear fs)); (first | (show Q .ret _) | (show Q .normal _) | skip); refine hret _ _ (by first | exact .inr rfl | exact .inl rfl) (by first | rfl | assumption | (simp only [put_df, withH_df]; assumption)) ?_; have fs := @i64.eq_1; refine evT ?_; clear fs; exact ⟨_, Heap.le_refl _, hle, _, frz_refl hle, by rw [hres]⟩
  have q3 : (ar = br) = True := eq_true g3
  by_cases g4 : ae = be
  case neg =>
    have q4 : (ae = be) = False := eq_false g4
    have hres : decide ((⟨ak, am, ar, ae, aa⟩ : TyS) = ⟨bk, bm, br, be, ba⟩) = false := decide_eq_false fun h => g4 (hext.1 h).2.2.2.1
    (have fs := And.intro @i64.eq_1 (And.intro q1 (And.intro q2 (And.intro q3 q4))); (repeat (first | refine hGx _ ?_ | refine hNx _ ?_ | refine W_skip ?_ | refine W_exit ?_ | refine W_ret ?_ | refine W_label ?_ | refine W_scope ?_ | refine W_block ?_ | refine W_seq ?_ | ((first | refine tS fun N hNx => ?_ | refine WL_gE rfl rfl (by kernel_rfl) (by kernel_rfl) fun G hGx => ?_ | refine vcOpsS_sound (by kernel_rfl) ?_ | refine W_ifE fun A B hAx hBx => ?_); refine evT ?_; (first | refine hGx _ ?_ | refine hNx _ ?_ | refine hAx ?_ | refine hBx ?_ | skip)))); (try clear fs)); (first | (show Q .ret _) | (show Q .normal _) | skip); refine hret _ _ (by first | exact .inr rfl | exact .inl rfl) (by first | rfl | assumption | (simp only [put_df, withH_df]; assumption)) ?_; have fs := @i64.eq_1; refine evT ?_; clear fs; exact ⟨_, Heap.le_refl _, hle, _, frz_refl hle, by rw [hres]⟩
  have q4 : (ae = be) = True := eq_true g4
  by_cases g5 : aa.length = ba.length
  case neg =>
    have q5 : ((aa.length : Int) = (ba.length : Int)) = False := eq_false (by omega)
    have hres : decide ((⟨ak, am, ar, ae, aa⟩ : TyS) = ⟨bk, bm, br, be, ba⟩) = false := decide_eq_false fun h => g5 (by rw [(hext.1 h).2.2.2.2])
    (have fs := And.intro @i64.eq_1 (And.intro hla (And.intro hlb (And.intro q1 (And.intro q2 (And.intro q3 (And.intro q4 q5)))))); (repeat (first | refine hGx _ ?_ | refine hNx _ ?_ | refine W_skip ?_ | refine W_exit ?_ | refine W_ret ?_ | refine W_label ?_ | refine W_scope ?_ | refine W_block ?_ | refine W_seq ?_ | ((first | refine tS fun N hNx => ?_ | refine WL_gE rfl rfl (by kernel_rfl) (by kernel_rfl) fun G hGx => ?_ | refine vcOpsS_sound (by kernel_rfl) ?_ | refine W_ifE fun A B hAx hBx => ?_); refine evT ?_; (first | refine hGx _ ?_ | refine hNx _ ?_ | refine hAx ?_ | refine hBx ?_ | skip)))); (try clear fs)); (first | (show Q .ret _) | (show Q .normal _) | skip); refine hret _ _ (by first | exact .inr rfl | exact .inl rfl) (by first | rfl | assumption | (simp only [put_df, withH_df]; assumption)) ?_; have fs := @i64.eq_1; refine evT ?_; clear fs; exact ⟨_, Heap.le_refl _, hle, _, frz_refl hle, by rw [hres]⟩
  have q5 : ((aa.length : Int) = (ba.length : Int)) = True := eq_true (by omega)
  (have fs := And.intro @i64.eq_1 (And.intro hla (And.intro hlb (And.intro q1 (And.intro q2 (And.intro q3 (And.intro q4 q5)))))); (repeat (first | refine hGx _ ?_ | refine hNx _ ?_ | refine W_skip ?_ | refine W_exit ?_ | refine W_ret ?_ | refine W_label ?_ | refine W_scope ?_ | refine W_block ?_ | refine W_seq ?_ | ((first | refine tS fun N hNx => ?_ | refine WL_gE rfl rfl (by kernel_rfl) (by kernel_rfl) fun G hGx => ?_ | refine vcOpsS_sound (by kernel_rfl) ?_ | refine W_ifE fun A B hAx hBx => ?_); refine evT ?_; (first | refine hGx _ ?_ | refine hNx _ ?_ | refine hAx ?_ | refine hBx ?_ | skip)))); (try clear fs))
  refine W_loopN aa.length (fun i s => s.df = [] ∧ s.fr 2 = .rp [i64 ak, .val (.bool am), i64 ar, i64 ae, .seq 1 (aa.map iD)] ∧ s.fr 3 = .rp [i64 bk, .val (.bool bm), i64 br, i64 be, .seq 1 (ba.map iD)] ∧ s.fr 5 = i64 i ∧ s.H = H ∧ aa.take i = ba.take i) ⟨rfl, rfl, rfl, rfl, rfl, rfl⟩ ?_
  rintro i s hi ⟨hdf, f2, f3, f5, hH, htk⟩
  have hx : (i : Int).toNat = i := Int.toNat_natCast _
  have h00 : (0 : Int) ≤ (i : Int) := Int.natCast_nonneg _
  have hleS : H.le s.H := by rw [hH]; exact hle
  by_cases hil : i < aa.length
  case neg =>
    have q6 : ((i : Int) < (aa.length : Int)) = False := eq_false (by omega)
    rw [List.take_of_length_le (by omega), List.take_of_length_le (by omega)] at htk
    have hres : decide ((⟨ak, am, ar, ae, aa⟩ : TyS) = ⟨bk, bm, br, be, ba⟩) = true := decide_eq_true (hext.2 ⟨g1, g2, g3, g4, htk⟩)
    (have fs := And.intro f2 (And.intro f5 (And.intro @i64.eq_1 (And.intro hla q6))); (repeat (first | refine hGx _ ?_ | refine hNx _ ?_ | refine W_skip ?_ | refine W_exit ?_ | refine W_ret ?_ | refine W_label ?_ | refine W_scope ?_ | refine W_block ?_ | refine W_seq ?_ | ((first | refine tS fun N hNx => ?_ | refine WL_gE rfl rfl (by kernel_rfl) (by kernel_rfl) fun G hGx => ?_ | refine vcOpsS_sound (by kernel_rfl) ?_ | refine W_ifE fun A B hAx hBx => ?_); refine evT ?_; (first | refine hGx _ ?_ | refine hNx _ ?_ | refine hAx ?_ | refine hBx ?_ | skip)))); (try clear fs))
    (first | (show Q .ret _) | (show Q .normal _) | skip); refine hret _ _ (by first | exact .inr rfl | exact .inl rfl) (by first | rfl | assumption | (simp only [put_df, withH_df]; assumption)) ?_; have fs := hdf; refine evT ?_; clear fs
    exact ⟨_, Heap.le_refl _, hleS, _, frz_refl hleS, by rw [hres]⟩
  have q6 : ((i : Int) < (aa.length : Int)) = True := eq_true (by omega)
  have hib : i < ba.length := by omega
  have hga := get_ints hil
  have hgb := get_ints hib
  have w3 : IntKind.i64.wrap ((i : Int) + 1) = ((i + 1 : Nat) : Int) := by rw [wrap_i64_of (by omega)]; omega
  (have fs := And.intro f2 (And.intro f5 (And.intro @i64.eq_1 (And.intro hla q6))); (repeat (first | refine hGx _ ?_ | refine hNx _ ?_ | refine W_skip ?_ | refine W_exit ?_ | refine W_ret ?_ | refine W_label ?_ | refine W_scope ?_ | refine W_block ?_ | refine W_seq ?_ | ((first | refine tS fun N hNx => ?_ | refine WL_gE rfl rfl (by kernel_rfl) (by kernel_rfl) fun G hGx => ?_ | refine vcOpsS_sound (by kernel_rfl) ?_ | refine W_ifE fun A B hAx hBx => ?_); refine evT ?_; (first | refine hGx _ ?_ | refine hNx _ ?_ | refine hAx ?_ | refine hBx ?_ | skip)))); (try clear fs))
  by_cases he : aa[i] = ba[i]
  case neg =>
    have q7 : (aa[i] = ba[i]) = False := eq_false he
    have hres : decide ((⟨ak, am, ar, ae, aa⟩ : TyS) = ⟨bk, bm, br, be, ba⟩) = false := decide_eq_false fun h => he (by have := (hext.1 h).2.2.2.2; subst this; rfl)
    refine W_drawE (fun _ _ _ _ => False) (by kernel_rfl) (by kernel_rfl) (by kernel_rfl) fun N hNx => ?_; (have fs := And.intro f2 (And.intro f3 (And.intro f5 (And.intro @i64.eq_1 (And.intro hla (And.intro hlb (And.intro hga (And.intro hgb (And.intro hx (And.intro h00 (And.intro hil (And.intro hib q7))))))))))); (repeat ((first | refine vcD_g rfl rfl fun G hGx => ?_ | refine vcDS_to ?_); refine evD ?_; (first | refine hGx _ ?_ | refine hNx _ ?_ | skip))); (try clear fs))
    (have fs := @i64.eq_1; (repeat (first | refine hGx _ ?_ | refine hNx _ ?_ | refine W_skip ?_ | refine W_exit ?_ | refine W_ret ?_ | refine W_label ?_ | refine W_scope ?_ | refine W_block ?_ | refine W_seq ?_ | ((first | refine tS fun N hNx => ?_ | refine WL_gE rfl rfl (by kernel_rfl) (by kernel_rfl) fun G hGx => ?_ | refine vcOpsS_sound (by kernel_rfl) ?_ | refine W_ifE fun A B hAx hBx => ?_); refine evT ?_; (first | refine hGx _ ?_ | refine hNx _ ?_ | refine hAx ?_ | refine hBx ?_ | skip)))); (try clear fs))
    (first | (show Q .ret _) | (show Q .normal _) | skip); refine hret _ _ (by first | exact .inr rfl | exact .inl rfl) (by first | rfl | assumption | (simp only [put_df, withH_df]; assumption)) ?_; have fs := hdf; refine evT ?_; clear fs
    exact ⟨_, Heap.le_refl _, hleS, _, frz_refl hleS, by rw [hres]⟩
  have q7 : (aa[i] = ba[i]) = True := eq_true he
  refine W_drawE (fun _ _ _ _ => False) (by kernel_rfl) (by kernel_rfl) (by kernel_rfl) fun N hNx => ?_; (have fs := And.intro f2 (And.intro f3 (And.intro f5 (And.intro @i64.eq_1 (And.intro hla (And.intro hlb (And.intro hga (And.intro hgb (And.intro hx (And.intro h00 (And.intro hil (And.intro hib q7))))))))))); (repeat ((first | refine vcD_g rfl rfl fun G hGx => ?_ | refine vcDS_to ?_); refine evD ?_; (first | refine hGx _ ?_ | refine hNx _ ?_ | skip))); (try clear fs))
  (have fs := And.intro f5 (And.intro @i64.eq_1 w3); (repeat (first | refine hGx _ ?_ | refine hNx _ ?_ | refine W_skip ?_ | refine W_exit ?_ | refine W_ret ?_ | refine W_label ?_ | refine W_scope ?_ | refine W_block ?_ | refine W_seq ?_ | ((first | refine tS fun N hNx => ?_ | refine WL_gE rfl rfl (by kernel_rfl) (by kernel_rfl) fun G hGx => ?_ | refine vcOpsS_sound (by kernel_rfl) ?_ | refine W_ifE fun A B hAx hBx => ?_); refine evT ?_; (first | refine hGx _ ?_ | refine hNx _ ?_ | refine hAx ?_ | refine hBx ?_ | skip)))); (try clear fs))
  exact ⟨hil, hdf, f2, f3, rfl, hH, take_snoc_eq htk hil hib he⟩
set_option maxHeartbeats 1000000 in
theorem kfind_N (ts : List TyS) (t : TyS) (H : Heap) (htl : ts.length ≤ 140737488351232) (har : ∀ u ∈ ts, u.ar.length ≤ 140737488351232) : Does Try.prog 36 [.seq 5 (ts.map tyD), .agg (tyD t)] H fun d H' => d = i64 (fndI t ts 0) ∧ H = H' := by
  refine Does.frz (K := fun d => d = i64 (fndI t ts 0)) ?_
  have htyl : (List.map tyD ts).length = ts.length := List.length_map _
  refine does_of _ _ Try.func36 rfl rfl Try.ntmps36 Try.results36 (by simp only [List.length_cons, List.length_nil]; omega) fun w0 Q hret => ?_
  (have fs := And.intro @i64.eq_1 @tyD.eq_1; (repeat (first | refine hGx _ ?_ | refine hNx _ ?_ | refine W_skip ?_ | refine W_exit ?_ | refine W_ret ?_ | refine W_label ?_ | refine W_scope ?_ | refine W_block ?_ | refine W_seq ?_ | ((first | refine tS fun N hNx => ?_ | refine WL_gE rfl rfl (by kernel_rfl) (by kernel_rfl) fun G hGx => ?_ | refine vcOpsS_sound (by kernel_rfl) ?_ | refine W_ifE fun A B hAx hBx => ?_); refine evT ?_; (first | refine hGx _ ?_ | refine hNx _ ?_ | refine hAx ?_ | refine hBx ?_ | skip)))); (try clear fs))
  intro c3 hc3
  refine hNx _ ?_
  refine W_frzp 3 rfl (Heap.upd_same _ _ _) rfl ?_; simp only [St.frzp, put_H, wdf_H, withH_H, withH_put, wdf_withH, withH_withH, init_H, init_withH, Heap.del_upd_same, Heap.del_none hc3, withH_self]
  (have fs := @i64.eq_1; (repeat (first | refine hGx _ ?_ | refine hNx _ ?_ | refine W_skip ?_ | refine W_exit ?_ | refine W_ret ?_ | refine W_label ?_ | refine W_scope ?_ | refine W_block ?_ | refine W_seq ?_ | ((first | refine tS fun N hNx => ?_ | refine WL_gE rfl rfl (by kernel_rfl) (by kernel_rfl) fun G hGx => ?_ | refine vcOpsS_sound (by kernel_rfl) ?_ | refine W_ifE fun A B hAx hBx => ?_); refine evT ?_; (first | refine hGx _ ?_ | refine hNx _ ?_ | refine hAx ?_ | refine hBx ?_ | skip)))); (try clear fs))
  refine W_loopN ts.length (fun i s => s.df = [] ∧ s.fr 0 = .seq 5 (ts.map tyD) ∧ s.fr 3 = .rp (tyD t) ∧ s.fr 5 = i64 i ∧ s.H = H ∧ fndI t ts 0 = fndI t (ts.drop i) i) ⟨rfl, rfl, rfl, rfl, rfl, rfl⟩ ?_
  rintro i s hi ⟨hdf, f0, f3, f5, hH, hf⟩
  have hx : (i : Int).toNat = i := Int.toNat_natCast _
  have h00 : (0 : Int) ≤ (i : Int) := Int.natCast_nonneg _
  have hleS : H.le s.H := by rw [hH]; exact Heap.le_refl _
  by_cases hil : i < ts.length
  case neg =>
    have q6 : ((i : Int) < (ts.length : Int)) = False := eq_false (by omega)
    rw [List.drop_eq_nil_of_le (by omega)] at hf
    (have fs := And.intro f0 (And.intro f5 (And.intro @i64.eq_1 (And.intro htyl q6))); (repeat (first | refine hGx _ ?_ | refine hNx _ ?_ | refine W_skip ?_ | refine W_exit ?_ | refine W_ret ?_ | refine W_label ?_ | refine W_scope ?_ | refine W_block ?_ | refine W_seq ?_ | ((first | refine tS fun N hNx => ?_ | refine WL_gE rfl rfl (by kernel_rfl) (by kernel_rfl) fun G hGx => ?_ | refine vcOpsS_sound (by kernel_rfl) ?_ | refine W_ifE fun A B hAx hBx => ?_); refine evT ?_; (first | refine hGx _ ?_ | refine hNx _ ?_ | refine hAx ?_ | refine hBx ?_ | skip)))); (try clear fs))
    (first | (show Q .ret _) | (show Q .normal _) | skip); refine hret _ _ (by first | exact .inr rfl | exact .inl rfl) (by first | rfl | assumption | (simp only [put_df, withH_df]; assumption)) ?_; have fs := hdf; refine evT ?_; clear fs
    exact ⟨_, Heap.le_refl _, hleS, _, frz_refl hleS, by rw [hf]; rfl⟩
  have q6 : ((i : Int) < (ts.length : Int)) = True := eq_true (by omega)
  have w3 : IntKind.i64.wrap ((i : Int) + 1) = ((i + 1 : Nat) : Int) := by rw [wrap_i64_of (by omega)]; omega
  have hui := har ts[i] (List.getElem_mem hil)
  have hgi : (ts.map tyD)[i]? = some (tyD ts[i]) := by rw [List.getElem?_map, List.getElem?_eq_getElem hil]; rfl
  rw [List.drop_eq_getElem_cons hil, fndI] at hf
  obtain ⟨u, hu⟩ : ∃ u, u = ts[i] := ⟨_, rfl⟩
  rw [← hu] at hgi hf hui
  have hcall : CallOK Try.prog 38 [.agg (tyD u), .agg (tyD t)] s.H fun d A => A = Heap.none ∧ d = .val (.bool (decide (u = t))) := callOK_eq fun H'' hle'' => kteq_N u t H'' hui
  obtain ⟨uk, um, ur, ue, ua⟩ := u
  obtain ⟨tk, tm, tr, te, ta⟩ := t
  simp only [tyD] at hgi f3 hcall
  (have fs := And.intro f0 (And.intro f5 (And.intro @i64.eq_1 (And.intro htyl q6))); (repeat (first | refine hGx _ ?_ | refine hNx _ ?_ | refine W_skip ?_ | refine W_exit ?_ | refine W_ret ?_ | refine W_label ?_ | refine W_scope ?_ | refine W_block ?_ | refine W_seq ?_ | ((first | refine tS fun N hNx => ?_ | refine WL_gE rfl rfl (by kernel_rfl) (by kernel_rfl) fun G hGx => ?_ | refine vcOpsS_sound (by kernel_rfl) ?_ | refine W_ifE fun A B hAx hBx => ?_); refine evT ?_; (first | refine hGx _ ?_ | refine hNx _ ?_ | refine hAx ?_ | refine hBx ?_ | skip)))); (try clear fs))
  by_cases he : (⟨uk, um, ur, ue, ua⟩ : TyS) = ⟨tk, tm, tr, te, ta⟩
  · rw [if_pos he] at hf
    rw [decide_eq_true he] at hcall
    refine W_drawE (fun _ _ d A => A = .none ∧ d = .val (.bool true)) (by kernel_rfl) (by kernel_rfl) (by kernel_rfl) fun N hNx => ?_; (have fs := And.intro f0 (And.intro f3 (And.intro f5 (And.intro @i64.eq_1 (And.intro htyl (And.intro hgi (And.intro hx (And.intro h00 hil))))))); (repeat ((first | refine vcD_g rfl rfl fun G hGx => ?_ | refine vcDS_to ?_); refine evD ?_; (first | refine hGx _ ?_ | refine hNx _ ?_ | skip))); (try clear fs))
    refine ⟨hcall, ?_⟩
    (first | refine hGx _ ?_ | refine hNx _ ?_ | skip)
    (have fs := @i64.eq_1; (repeat ((first | refine vcD_g rfl rfl fun G hGx => ?_ | refine vcDS_to ?_); refine evD ?_; (first | refine hGx _ ?_ | refine hNx _ ?_ | skip))); (try clear fs))
    (have fs := And.intro f5 @i64.eq_1; (repeat (first | refine hGx _ ?_ | refine hNx _ ?_ | refine W_skip ?_ | refine W_exit ?_ | refine W_ret ?_ | refine W_label ?_ | refine W_scope ?_ | refine W_block ?_ | refine W_seq ?_ | ((first | refine tS fun N hNx => ?_ | refine WL_gE rfl rfl (by kernel_rfl) (by kernel_rfl) fun G hGx => ?_ | refine vcOpsS_sound (by kernel_rfl) ?_ | refine W_ifE fun A B hAx hBx => ?_); refine evT ?_; (first | refine hGx _ ?_ | refine hNx _ ?_ | refine hAx ?_ | refine hBx ?_ | skip)))); (try clear fs))
    (first | (show Q .ret _) | (show Q .normal _) | skip); refine hret _ _ (by first | exact .inr rfl | exact .inl rfl) (by first | rfl | assumption | (simp only [put_df, withH_df]; assumption)) ?_; have fs := hdf; refine evT ?_; clear fs
    exact ⟨_, Heap.le_refl _, hleS, _, frz_refl hleS, by rw [hf]; rfl⟩
  · rw [if_neg he] at hf
    rw [decide_eq_false he] at hcall
    refine W_drawE (fun _ _ d A => A = .none ∧ d = .val (.bool false)) (by kernel_rfl) (by kernel_rfl) (by kernel_rfl) fun N hNx => ?_; (have fs := And.intro f0 (And.intro f3 (And.intro f5 (And.intro @i64.eq_1 (And.intro htyl (And.intro hgi (And.intro hx (And.intro h00 hil))))))); (repeat ((first | refine vcD_g rfl rfl fun G hGx => ?_ | refine vcDS_to ?_); refine evD ?_; (first | refine hGx _ ?_ | refine hNx _ ?_ | skip))); (try clear fs))
    refine ⟨hcall, ?_⟩
    (first | refine hGx _ ?_ | refine hNx _ ?_ | skip)
    (have fs := @i64.eq_1; (repeat ((first | refine vcD_g rfl rfl fun G hGx => ?_ | refine vcDS_to ?_); refine evD ?_; (first | refine hGx _ ?_ | refine hNx _ ?_ | skip))); (try clear fs))
    (have fs := And.intro f5 (And.intro @i64.eq_1 w3); (repeat (first | refine hGx _ ?_ | refine hNx _ ?_ | refine W_skip ?_ | refine W_exit ?_ | refine W_ret ?_ | refine W_label ?_ | refine W_scope ?_ | refine W_block ?_ | refine W_seq ?_ | ((first | refine tS fun N hNx => ?_ | refine WL_gE rfl rfl (by kernel_rfl) (by kernel_rfl) fun G hGx => ?_ | refine vcOpsS_sound (by kernel_rfl) ?_ | refine W_ifE fun A B hAx hBx => ?_); refine evT ?_; (first | refine hGx _ ?_ | refine hNx _ ?_ | refine hAx ?_ | refine hBx ?_ | skip)))); (try clear fs))
    exact ⟨hil, hdf, f0, f3, rfl, hH, hf⟩
theorem W_to {cx : Cx} {x : Code} {N : St → Prop} {Q : Exit → St → Prop} {s : St} (M : St → Prop) (h1 : W cx x (thenQ M (fun _ _ => False)) s) (h2 : ∀ s, M s → N s) : W cx x (thenQ N Q) s :=
  W_mono h1 fun e s' q => by cases e <;> first | exact h2 s' q | exact q.elim
theorem getD_ints {d : List Int} {i : Nat} (h : i < d.length) : (d.map iD)[i]? = some [.val (.int .i64 (d.getD i 0))] := by
  rw [get_ints h, List.getD_eq_getElem?_getD, List.getElem?_eq_getElem h]; rfl
theorem Gl.os {H0 : Heap} {e : TypeId} {d : D} {H : Heap} {ob : Option Nat} {l : List Int} (h : Gl H0 e 1 (l.map iD) d H ob) (hl : 0 < l.length) : ∃ c o, d = .os c o 1 0 l.length ∧ H0 c = none ∧ H c = some (.row e o 1 (l.map iD)) := by
  rcases h with ⟨_, _, h⟩ | ⟨c, o, _, h1, h2, h3⟩
  · rw [List.map_eq_nil_iff] at h; rw [h] at hl; simp at hl
  · exact ⟨c, o, by rw [h1, List.length_map], h2, h3⟩
set_option maxHeartbeats 1000000 in
theorem kdeps_N (ts : List TyS) (n : Nat) (H : Heap) (hn : n ≤ ts.length) (htl : ts.length ≤ 1000000) (har : ∀ u ∈ ts, u.ar.length ≤ 140737488351232) (hw : wfT (ts.take n)) : Does Try.prog 78 [.seq 5 (ts.map tyD), i64 n] H fun d H' => d = .seq 1 ((depL (ts.take n)).map iD) ∧ H = H' := by
  refine Does.frz (K := fun d => d = .seq 1 ((depL (ts.take n)).map iD)) ?_
  have htyl : (List.map tyD ts).length = ts.length := List.length_map _
  refine does_of _ _ Try.func78 rfl rfl Try.ntmps78 Try.results78 (by simp only [List.length_cons, List.length_nil]; omega) fun w0 Q hret => ?_
  (have fs := @i64.eq_1; (repeat (first | refine hGx _ ?_ | refine hNx _ ?_ | refine W_skip ?_ | refine W_exit ?_ | refine W_ret ?_ | refine W_label ?_ | refine W_scope ?_ | refine W_block ?_ | refine W_seq ?_ | ((first | refine tS fun N hNx => ?_ | refine WL_gE rfl rfl (by kernel_rfl) (by kernel_rfl) fun G hGx => ?_ | refine vcOpsS_sound (by kernel_rfl) ?_ | refine W_ifE fun A B hAx hBx => ?_); refine evT ?_; (first | refine hGx _ ?_ | refine hNx _ ?_ | refine hAx ?_ | refine hBx ?_ | skip)))); (try clear fs))
  refine W_loopN n (fun i s => s.df = [] ∧ s.fr 0 = .seq 5 (ts.map tyD) ∧ s.fr 1 = i64 n ∧ s.fr 6 = i64 i ∧ H.le s.H ∧ ∃ ob, Gl H 3 1 ((depL (ts.take i)).map iD) (s.fr 5) s.H ob) ⟨rfl, rfl, rfl, rfl, Heap.le_refl _, none, Gl.nil _ _ _ _⟩ ?_
  rintro i s hi ⟨hdf, f0, f1, f6, hle, ob, hg⟩
  by_cases hil : i < n
  case neg =>
    have q1 : ((i : Int) < (n : Int)) = False := eq_false (by omega)
    have hin : i = n := by omega
    subst hin
    (have fs := And.intro f1 (And.intro f6 (And.intro @i64.eq_1 q1)); (repeat (first | refine hGx _ ?_ | refine hNx _ ?_ | refine W_skip ?_ | refine W_exit ?_ | refine W_ret ?_ | refine W_label ?_ | refine W_scope ?_ | refine W_block ?_ | refine W_seq ?_ | ((first | refine tS fun N hNx => ?_ | refine WL_gE rfl rfl (by kernel_rfl) (by kernel_rfl) fun G hGx => ?_ | refine vcOpsS_sound (by kernel_rfl) ?_ | refine W_ifE fun A B hAx hBx => ?_); refine evT ?_; (first | refine hGx _ ?_ | refine hNx _ ?_ | refine hAx ?_ | refine hBx ?_ | skip)))); (try clear fs))
    (first | (show Q .ret _) | (show Q .normal _) | skip); refine hret _ _ (by first | exact .inr rfl | exact .inl rfl) (by first | rfl | assumption | (simp only [put_df, withH_df]; assumption)) ?_; have fs := hdf; refine evT ?_; clear fs
    exact ⟨_, Heap.le_refl _, hle, _, frz_gl hle hg, rfl⟩
  have q1 : ((i : Int) < (n : Int)) = True := eq_true (by omega)
  have hx : (i : Int).toNat = i := Int.toNat_natCast _
  have h00 : (0 : Int) ≤ (i : Int) := Int.natCast_nonneg _
  have hit : i < ts.length := by omega
  have w3 : IntKind.i64.wrap ((i : Int) + 1) = ((i + 1 : Nat) : Int) := by rw [wrap_i64_of (by omega)]; omega
  have hgi : (ts.map tyD)[i]? = some (tyD ts[i]) := by rw [List.getElem?_map, List.getElem?_eq_getElem hit]; rfl
  have hui := har ts[i] (List.getElem_mem hit)
  have hwi := hw i (by rw [List.length_take]; omega)
  rw [List.getElem_take] at hwi
  have hdt := depL_take hit
  have hdl : (depL (ts.take i)).length = i := by rw [depL_len, List.length_take]; omega
  have hbd := depL_bd (ts.take i)
  rw [List.length_take, Nat.min_eq_left (by omega)] at hbd
  have hk1 := kidM_le (b := i) (fun x hx => (hbd x hx).2) (by omega) ts[i]
  have hk2 := kidM_ge (fun x hx => by have := hbd x hx; omega) ts[i]
  obtain ⟨dd, hdd⟩ : ∃ dd, dd = depL (ts.take i) := ⟨_, rfl⟩
  rw [← hdd] at hdt hdl hk1 hk2 hg
  have hkm : kidM dd ts[i] = ts[i].ar.foldl (kidF dd) (if ts[i].k = 3 then dd.getD ts[i].e.toNat 0 else 0) := rfl
  obtain ⟨u, hu⟩ : ∃ u, u = ts[i] := ⟨_, rfl⟩
  rw [← hu] at hgi hui hwi hdt hk1 hk2 hkm
  obtain ⟨uk, um, ur, ue, ua⟩ := u
  simp only [tyD] at hgi hui hwi hkm
  obtain ⟨km, hkme⟩ : ∃ km, km = kidM dd ⟨uk, um, ur, ue, ua⟩ := ⟨_, rfl⟩
  rw [← hkme] at hdt hk1 hk2 hkm
  have hla : (List.map iD ua).length = ua.length := List.length_map _
  obtain ⟨d5, hd5⟩ : ∃ d5, d5 = s.fr 5 := ⟨_, rfl⟩
  rw [← hd5] at hg
  (have fs := And.intro f0 (And.intro f1 (And.intro f6 (And.intro @i64.eq_1 (And.intro q1 (And.intro hgi (And.intro hx (And.intro h00 (And.intro hit htyl)))))))); (iterate 12 (first | refine hGx _ ?_ | refine hNx _ ?_ | refine W_skip ?_ | refine W_exit ?_ | refine W_ret ?_ | refine W_label ?_ | refine W_scope ?_ | refine W_block ?_ | refine W_seq ?_ | ((first | refine tS fun N hNx => ?_ | refine WL_gE rfl rfl (by kernel_rfl) (by kernel_rfl) fun G hGx => ?_ | refine vcOpsS_sound (by kernel_rfl) ?_ | refine W_ifE fun A B hAx hBx => ?_); refine evT ?_; (first | refine hGx _ ?_ | refine hNx _ ?_ | refine hAx ?_ | refine hBx ?_ | skip)))); (try clear fs))
  refine W_to (fun s1 => s1.df = [] ∧ s1.fr 0 = .seq 5 (ts.map tyD) ∧ s1.fr 1 = i64 n ∧ s1.fr 6 = i64 i ∧ s1.H = s.H ∧ s1.fr 5 = d5 ∧ s1.fr 7 = i64 (if uk = 3 then dd.getD ue.toNat 0 else 0)) ?_ ?_
  · by_cases h3 : uk = 3
    · have q3 : (uk = 3) = True := eq_true h3
      have hue := hwi.1 h3
      obtain ⟨c, o, f5, hc0, hHc⟩ := Gl.os hg (by omega)
      rw [hd5] at f5
      have hgv := getD_ints (d := dd) (i := ue.toNat) (by omega)
      have h0u : 0 ≤ ue := hue.1
      have hul : (ue < (dd.length : Int)) = True := eq_true (by omega)
      rw [if_pos h3]
      (have fs := And.intro f0 (And.intro f5 (And.intro f6 (And.intro @i64.eq_1 (And.intro q3 (And.intro hgi (And.intro hx (And.intro h00 (And.intro hit (And.intro htyl (And.intro hHc (And.intro hgv (And.intro h0u hul)))))))))))); (repeat (first | refine hGx _ ?_ | refine hNx _ ?_ | refine W_skip ?_ | refine W_exit ?_ | refine W_ret ?_ | refine W_label ?_ | refine W_scope ?_ | refine W_block ?_ | refine W_seq ?_ | ((first | refine tS fun N hNx => ?_ | refine WL_gE rfl rfl (by kernel_rfl) (by kernel_rfl) fun G hGx => ?_ | refine vcOpsS_sound (by kernel_rfl) ?_ | refine W_ifE fun A B hAx hBx => ?_); refine evT ?_; (first | refine hGx _ ?_ | refine hNx _ ?_ | refine hAx ?_ | refine hBx ?_ | skip)))); (try clear fs))
      exact ⟨hdf, f0, f1, f6, rfl, by rw [hd5, ← f5]; rfl, rfl⟩
    · have q3 : (uk = 3) = False := eq_false h3
      rw [if_neg h3]
      (have fs := And.intro f0 (And.intro f6 (And.intro @i64.eq_1 q3)); (repeat (first | refine hGx _ ?_ | refine hNx _ ?_ | refine W_skip ?_ | refine W_exit ?_ | refine W_ret ?_ | refine W_label ?_ | refine W_scope ?_ | refine W_block ?_ | refine W_seq ?_ | ((first | refine tS fun N hNx => ?_ | refine WL_gE rfl rfl (by kernel_rfl) (by kernel_rfl) fun G hGx => ?_ | refine vcOpsS_sound (by kernel_rfl) ?_ | refine W_ifE fun A B hAx hBx => ?_); refine evT ?_; (first | refine hGx _ ?_ | refine hNx _ ?_ | refine hAx ?_ | refine hBx ?_ | skip)))); (try clear fs))
      exact ⟨hdf, f0, f1, f6, rfl, hd5.symm, rfl⟩
  rintro s1 ⟨hdf1, g0, g1, g6, hH1, g5, g7⟩
  (have fs := @i64.eq_1; (repeat (first | refine hGx _ ?_ | refine hNx _ ?_ | refine W_skip ?_ | refine W_exit ?_ | refine W_ret ?_ | refine W_label ?_ | refine W_scope ?_ | refine W_block ?_ | refine W_seq ?_ | ((first | refine tS fun N hNx => ?_ | refine WL_gE rfl rfl (by kernel_rfl) (by kernel_rfl) fun G hGx => ?_ | refine vcOpsS_sound (by kernel_rfl) ?_ | refine W_ifE fun A B hAx hBx => ?_); refine evT ?_; (first | refine hGx _ ?_ | refine hNx _ ?_ | refine hAx ?_ | refine hBx ?_ | skip)))); (try clear fs))
  refine W_loopN ua.length (fun (j : Nat) (s' : St) => s'.df = [] ∧ s'.fr 0 = .seq 5 (ts.map tyD) ∧ s'.fr 1 = i64 n ∧ s'.fr 6 = i64 i ∧ s'.H = s.H ∧ s'.fr 5 = d5 ∧ s'.fr 8 = i64 j ∧ s'.fr 7 = i64 ((ua.take j).foldl (kidF dd) (if uk = 3 then dd.getD ue.toNat 0 else 0))) ⟨hdf1, g0, g1, g6, hH1, g5, rfl, g7⟩ ?_
  rintro j s2 hj ⟨hdf2, k0, k1, k6, hH2, k5, k8, k7⟩
  have hjx : (j : Int).toNat = j := Int.toNat_natCast _
  have h0j : (0 : Int) ≤ (j : Int) := Int.natCast_nonneg _
  by_cases hjl : j < ua.length
  case neg =>
    have q2 : ((j : Int) < (ua.length : Int)) = False := eq_false (by omega)
    rw [List.take_of_length_le (by omega), ← hkm] at k7
    have w4 : IntKind.i64.wrap (km + 1) = km + 1 := wrap_i64_of (by omega)
    have hg2 : Gl H 3 1 (dd.map iD) (s2.fr 5) s2.H ob := by rw [k5, hH2]; exact hg
    have hle2 : H.le s2.H := by rw [hH2]; exact hle
    (have fs := And.intro k0 (And.intro k6 (And.intro k7 (And.intro k8 (And.intro @i64.eq_1 (And.intro q2 (And.intro w4 (And.intro hgi (And.intro hx (And.intro h00 (And.intro hit (And.intro htyl hla))))))))))); (repeat (first | refine hGx _ ?_ | refine hNx _ ?_ | refine W_skip ?_ | refine W_exit ?_ | refine W_ret ?_ | refine W_label ?_ | refine W_scope ?_ | refine W_block ?_ | refine W_seq ?_ | ((first | refine tS fun N hNx => ?_ | refine WL_gE rfl rfl (by kernel_rfl) (by kernel_rfl) fun G hGx => ?_ | refine vcOpsS_sound (by kernel_rfl) ?_ | refine W_ifE fun A B hAx hBx => ?_); refine evT ?_; (first | refine hGx _ ?_ | refine hNx _ ?_ | refine hAx ?_ | refine hBx ?_ | skip)))); (try clear fs))
    refine apV_grow (e := 3) ty36 rfl ty36 rfl ty3 rfl (by decide) hle2 hg2 (new := [iD (km + 1)]) (by exact ⟨rfl, rfl⟩) (by rw [List.length_map]; show (_ + 1) * 8 ≤ _; omega) fun d H6 ob6 hg6 hle6 _ => ?_
    rw [show [iD (km + 1)] = [km + 1].map iD from rfl, ← List.map_append, ← hdt] at hg6
    (have fs := And.intro k6 (And.intro @i64.eq_1 w3); (repeat (first | refine hGx _ ?_ | refine hNx _ ?_ | refine W_skip ?_ | refine W_exit ?_ | refine W_ret ?_ | refine W_label ?_ | refine W_scope ?_ | refine W_block ?_ | refine W_seq ?_ | ((first | refine tS fun N hNx => ?_ | refine WL_gE rfl rfl (by kernel_rfl) (by kernel_rfl) fun G hGx => ?_ | refine vcOpsS_sound (by kernel_rfl) ?_ | refine W_ifE fun A B hAx hBx => ?_); refine evT ?_; (first | refine hGx _ ?_ | refine hNx _ ?_ | refine hAx ?_ | refine hBx ?_ | skip)))); (try clear fs))
    exact ⟨hil, hdf2, k0, k1, rfl, hle6, ob6, hg6⟩
  have q2 : ((j : Int) < (ua.length : Int)) = True := eq_true (by omega)
  have hgj := get_ints hjl
  have hfi := hwi.2 ua[j] (List.getElem_mem hjl)
  have hstep : (ua.take (j + 1)).foldl (kidF dd) (if uk = 3 then dd.getD ue.toNat 0 else 0) = max ((ua.take j).foldl (kidF dd) (if uk = 3 then dd.getD ue.toNat 0 else 0)) (dd.getD ua[j].toNat 0) := by
    rw [List.take_succ_eq_append_getElem hjl, List.foldl_append]; rfl
  obtain ⟨f, hfe⟩ : ∃ f, f = ua[j] := ⟨_, rfl⟩
  rw [← hfe] at hgj hfi hstep
  obtain ⟨c, o, f5, hc0, hHc⟩ := Gl.os hg (by omega)
  have k5' := k5.trans f5
  rw [← hH2] at hHc
  have hgv := getD_ints (d := dd) (i := f.toNat) (by omega)
  have h0u : 0 ≤ f := hfi.1
  have hul : (f < (dd.length : Int)) = True := eq_true (by omega)
  have w4 : IntKind.i64.wrap ((j : Int) + 1) = ((j + 1 : Nat) : Int) := by rw [wrap_i64_of (by omega)]; omega
  (have fs := And.intro k0 (And.intro k5' (And.intro k6 (And.intro k7 (And.intro k8 (And.intro @i64.eq_1 (And.intro q2 (And.intro w4 (And.intro hgi (And.intro hx (And.intro h00 (And.intro hit (And.intro htyl (And.intro hla (And.intro hgj (And.intro hjx (And.intro h0j (And.intro hjl (And.intro hHc (And.intro hgv (And.intro h0u hul)))))))))))))))))))); (repeat (first | refine hGx _ ?_ | refine hNx _ ?_ | refine W_skip ?_ | refine W_exit ?_ | refine W_ret ?_ | refine W_label ?_ | refine W_scope ?_ | refine W_block ?_ | refine W_seq ?_ | ((first | refine tS fun N hNx => ?_ | refine WL_gE rfl rfl (by kernel_rfl) (by kernel_rfl) fun G hGx => ?_ | refine vcOpsS_sound (by kernel_rfl) ?_ | refine W_ifE fun A B hAx hBx => ?_); refine evT ?_; (first | refine hGx _ ?_ | refine hNx _ ?_ | refine hAx ?_ | refine hBx ?_ | skip)))); (try clear fs))
  exact ⟨hjl, hdf2, k0, k1, k6, hH2, k5, rfl, by rw [hstep]; rfl⟩
theorem kdep_N (ts : List TyS) (i : Int) (H : Heap) (htl : ts.length ≤ 1000000) (har : ∀ u ∈ ts, u.ar.length ≤ 140737488351232) (hw : wfT ts) : Does Try.prog 41 [.seq 5 (ts.map tyD), i64 i] H fun d H' => d = i64 (depAt ts i) ∧ H = H' := by
  refine Does.frz (K := fun d => d = i64 (depAt ts i)) ?_
  have htyl : (List.map tyD ts).length = ts.length := List.length_map _
  have hle := Heap.le_refl H
  refine does_of _ _ Try.func41 rfl rfl Try.ntmps41 Try.results41 (by simp only [List.length_cons, List.length_nil]; omega) fun w0 Q hret => ?_
  by_cases h1 : i < 0
  · have q1 : (i < 0) = True := eq_true h1
    (have fs := And.intro @i64.eq_1 q1; (repeat (first | refine hGx _ ?_ | refine hNx _ ?_ | refine W_skip ?_ | refine W_exit ?_ | refine W_ret ?_ | refine W_label ?_ | refine W_scope ?_ | refine W_block ?_ | refine W_seq ?_ | ((first | refine tS fun N hNx => ?_ | refine WL_gE rfl rfl (by kernel_rfl) (by kernel_rfl) fun G hGx => ?_ | refine vcOpsS_sound (by kernel_rfl) ?_ | refine W_ifE fun A B hAx hBx => ?_); refine evT ?_; (first | refine hGx _ ?_ | refine hNx _ ?_ | refine hAx ?_ | refine hBx ?_ | skip)))); (try clear fs))
    (first | (show Q .ret _) | (show Q .normal _) | skip); refine hret _ _ (by first | exact .inr rfl | exact .inl rfl) (by first | rfl | assumption | (simp only [put_df, withH_df]; assumption)) ?_; have fs := @i64.eq_1; refine evT ?_; clear fs
    exact ⟨_, Heap.le_refl _, hle, _, frz_refl hle, by unfold depAt; rw [if_neg (fun h => by have := h.1; omega)]⟩
  have q1 : (i < 0) = False := eq_false h1
  by_cases h2 : (ts.length : Int) ≤ i
  · have q2 : ((ts.length : Int) ≤ i) = True := eq_true h2
    (have fs := And.intro @i64.eq_1 (And.intro q1 (And.intro q2 htyl)); (repeat (first | refine hGx _ ?_ | refine hNx _ ?_ | refine W_skip ?_ | refine W_exit ?_ | refine W_ret ?_ | refine W_label ?_ | refine W_scope ?_ | refine W_block ?_ | refine W_seq ?_ | ((first | refine tS fun N hNx => ?_ | refine WL_gE rfl rfl (by kernel_rfl) (by kernel_rfl) fun G hGx => ?_ | refine vcOpsS_sound (by kernel_rfl) ?_ | refine W_ifE fun A B hAx hBx => ?_); refine evT ?_; (first | refine hGx _ ?_ | refine hNx _ ?_ | refine hAx ?_ | refine hBx ?_ | skip)))); (try clear fs))
    (first | (show Q .ret _) | (show Q .normal _) | skip); refine hret _ _ (by first | exact .inr rfl | exact .inl rfl) (by first | rfl | assumption | (simp only [put_df, withH_df]; assumption)) ?_; have fs := @i64.eq_1; refine evT ?_; clear fs
    exact ⟨_, Heap.le_refl _, hle, _, frz_refl hle, by unfold depAt; rw [if_neg (fun h => by have := h.2; omega)]⟩
  have q2 : ((ts.length : Int) ≤ i) = False := eq_false h2
  have hR : InR ts.length i := ⟨by omega, by omega⟩
  obtain ⟨n, rfl⟩ : ∃ n : Nat, i = n := ⟨i.toNat, by omega⟩
  have w3 : IntKind.i64.wrap ((n : Int) + 1) = ((n + 1 : Nat) : Int) := by rw [wrap_i64_of (by omega)]; omega
  have hln : (depL (ts.take (n + 1))).length = n + 1 := by rw [depL_len, List.length_take]; omega
  have hgv := getD_ints (d := depL (ts.take (n + 1))) (i := n) (by omega)
  have hgd : (depL (ts.take (n + 1))).getD n 0 = depAt ts n := by
    unfold depAt
    rw [if_pos hR, List.getD_eq_getElem?_getD, List.getD_eq_getElem?_getD, Int.toNat_natCast, depL_get (by omega) (by omega)]
  rw [hgd] at hgv
  have hx : (n : Int).toNat = n := Int.toNat_natCast _
  have h00 : (0 : Int) ≤ (n : Int) := Int.natCast_nonneg _
  have hml : (List.map iD (depL (ts.take (n + 1)))).length = n + 1 := by rw [List.length_map, hln]
  have hnl : n < n + 1 := by omega
  have hnl' : ((n : Int) < ((n + 1 : Nat) : Int)) = True := eq_true (by omega)
  (have fs := And.intro @i64.eq_1 (And.intro q1 (And.intro q2 (And.intro htyl w3))); (repeat (first | refine hGx _ ?_ | refine hNx _ ?_ | refine W_skip ?_ | refine W_exit ?_ | refine W_ret ?_ | refine W_label ?_ | refine W_scope ?_ | refine W_block ?_ | refine W_seq ?_ | ((first | refine tS fun N hNx => ?_ | refine WL_gE rfl rfl (by kernel_rfl) (by kernel_rfl) fun G hGx => ?_ | refine vcOpsS_sound (by kernel_rfl) ?_ | refine W_ifE fun A B hAx hBx => ?_); refine evT ?_; (first | refine hGx _ ?_ | refine hNx _ ?_ | refine hAx ?_ | refine hBx ?_ | skip)))); (try clear fs))
  refine (kdeps_N ts (n + 1) _ (by omega) htl har (wfT_take hw _)).mono ?_
  rintro d _ ⟨rfl, rfl⟩
  (have fs := And.intro @i64.eq_1 (And.intro hgv (And.intro hx (And.intro h00 (And.intro hml (And.intro hnl hnl'))))); (repeat (first | refine hGx _ ?_ | refine hNx _ ?_ | refine W_skip ?_ | refine W_exit ?_ | refine W_ret ?_ | refine W_label ?_ | refine W_scope ?_ | refine W_block ?_ | refine W_seq ?_ | ((first | refine tS fun N hNx => ?_ | refine WL_gE rfl rfl (by kernel_rfl) (by kernel_rfl) fun G hGx => ?_ | refine vcOpsS_sound (by kernel_rfl) ?_ | refine W_ifE fun A B hAx hBx => ?_); refine evT ?_; (first | refine hGx _ ?_ | refine hNx _ ?_ | refine hAx ?_ | refine hBx ?_ | skip)))); (try clear fs))
  (first | (show Q .ret _) | (show Q .normal _) | skip); refine hret _ _ (by first | exact .inr rfl | exact .inl rfl) (by first | rfl | assumption | (simp only [put_df, withH_df]; assumption)) ?_; have fs := @i64.eq_1; refine evT ?_; clear fs
  exact ⟨_, Heap.le_refl _, hle, _, frz_refl hle, rfl⟩
theorem W_toR {cx : Cx} {x : Code} {N : St → Prop} {Q : Exit → St → Prop} {s : St} (M : St → Prop) (h1 : W cx x (thenQ M (fun e s' => e ≠ .normal ∧ Q e s')) s) (h2 : ∀ s, M s → N s) : W cx x (thenQ N Q) s :=
  W_mono h1 fun e s' q => by cases e <;> first | exact h2 s' q | exact q.2
set_option maxHeartbeats 1000000 in
theorem kchk1_N (ts : List TyS) (i : Nat) (n : Int) (H : Heap) (hi : i < ts.length) (htl : ts.length ≤ 1000000) (har : ∀ u ∈ ts, u.ar.length ≤ 140737488351232) (hw : wfT (ts.take i)) :
    Does Try.prog 77 [.seq 5 (ts.map tyD), .seq 1 ((depL (ts.take i)).map iD), i64 i, i64 n] H fun d H' => d = i64 (chk1 (ts.take i) n ts[i]) ∧ H = H' := by
  refine Does.frz (K := fun d => d = i64 (chk1 (ts.take i) n ts[i])) ?_
  have hle := Heap.le_refl H
  have htyl : (List.map tyD ts).length = ts.length := List.length_map _
  have hx : (i : Int).toNat = i := Int.toNat_natCast _
  have h00 : (0 : Int) ≤ (i : Int) := Int.natCast_nonneg _
  have hgi : (ts.map tyD)[i]? = some (tyD ts[i]) := by rw [List.getElem?_map, List.getElem?_eq_getElem hi]; rfl
  have hui := har ts[i] (List.getElem_mem hi)
  obtain ⟨u, hu⟩ : ∃ u, u = ts[i] := ⟨_, rfl⟩
  rw [← hu] at hgi hui ⊢
  obtain ⟨c, hc⟩ : ∃ c, c = chk1 (ts.take i) n u := ⟨_, rfl⟩
  have hc' := hc
  unfold chk1 at hc'
  rw [← hc]
  have hps : (ts.take i).length = i := by rw [List.length_take]; omega
  rw [hps] at hc'
  obtain ⟨uk, um, ur, ue, ua⟩ := u
  simp only at hc' hui
  simp only [tyD] at hgi
  have hla : (List.map iD ua).length = ua.length := List.length_map _
  refine does_of _ _ Try.func77 rfl rfl Try.ntmps77 Try.results77 (by simp only [List.length_cons, List.length_nil]; omega) fun w0 Q hret => ?_
  (have fs := And.intro @i64.eq_1 (And.intro hgi (And.intro hx (And.intro h00 (And.intro hi htyl)))); (repeat (first | refine hGx _ ?_ | refine hNx _ ?_ | refine W_skip ?_ | refine W_exit ?_ | refine W_ret ?_ | refine W_label ?_ | refine W_scope ?_ | refine W_block ?_ | refine W_seq ?_ | ((first | refine tS fun N hNx => ?_ | refine WL_gE rfl rfl (by kernel_rfl) (by kernel_rfl) fun G hGx => ?_ | refine vcOpsS_sound (by kernel_rfl) ?_ | refine W_ifE fun A B hAx hBx => ?_); refine evT ?_; (first | refine hGx _ ?_ | refine hNx _ ?_ | refine hAx ?_ | refine hBx ?_ | skip)))); (try clear fs))
  intro c9 hc9
  refine hNx _ ?_
  refine W_frzp 9 rfl (Heap.upd_same _ _ _) rfl ?_; simp only [St.frzp, put_H, wdf_H, withH_H, withH_put, wdf_withH, withH_withH, init_H, init_withH, Heap.del_upd_same, Heap.del_none hc9, withH_self]
  by_cases h1 : uk < 0
  · have q1 : (uk < 0) = True := eq_true h1
    rw [if_pos (.inl h1)] at hc'
    (have fs := And.intro @i64.eq_1 q1; (repeat (first | refine hGx _ ?_ | refine hNx _ ?_ | refine W_skip ?_ | refine W_exit ?_ | refine W_ret ?_ | refine W_label ?_ | refine W_scope ?_ | refine W_block ?_ | refine W_seq ?_ | ((first | refine tS fun N hNx => ?_ | refine WL_gE rfl rfl (by kernel_rfl) (by kernel_rfl) fun G hGx => ?_ | refine vcOpsS_sound (by kernel_rfl) ?_ | refine W_ifE fun A B hAx hBx => ?_); refine evT ?_; (first | refine hGx _ ?_ | refine hNx _ ?_ | refine hAx ?_ | refine hBx ?_ | skip)))); (try clear fs))
    (first | (show Q .ret _) | (show Q .normal _) | skip); refine hret _ _ (by first | exact .inr rfl | exact .inl rfl) (by first | rfl | assumption | (simp only [put_df, withH_df]; assumption)) ?_; have fs := @i64.eq_1; refine evT ?_; clear fs
    exact ⟨_, Heap.le_refl _, hle, _, frz_refl hle, by rw [hc']; rfl⟩
  have q1 : (uk < 0) = False := eq_false h1
  by_cases h2 : 4 < uk
  · have q2 : (4 < uk) = True := eq_true h2
    rw [if_pos (.inr h2)] at hc'
    (have fs := And.intro @i64.eq_1 (And.intro q1 q2); (repeat (first | refine hGx _ ?_ | refine hNx _ ?_ | refine W_skip ?_ | refine W_exit ?_ | refine W_ret ?_ | refine W_label ?_ | refine W_scope ?_ | refine W_block ?_ | refine W_seq ?_ | ((first | refine tS fun N hNx => ?_ | refine WL_gE rfl rfl (by kernel_rfl) (by kernel_rfl) fun G hGx => ?_ | refine vcOpsS_sound (by kernel_rfl) ?_ | refine W_ifE fun A B hAx hBx => ?_); refine evT ?_; (first | refine hGx _ ?_ | refine hNx _ ?_ | refine hAx ?_ | refine hBx ?_ | skip)))); (try clear fs))
    (first | (show Q .ret _) | (show Q .normal _) | skip); refine hret _ _ (by first | exact .inr rfl | exact .inl rfl) (by first | rfl | assumption | (simp only [put_df, withH_df]; assumption)) ?_; have fs := @i64.eq_1; refine evT ?_; clear fs
    exact ⟨_, Heap.le_refl _, hle, _, frz_refl hle, by rw [hc']; rfl⟩
  have q2 : (4 < uk) = False := eq_false h2
  rw [if_neg (by omega)] at hc'
  (have fs := And.intro @i64.eq_1 (And.intro q1 q2); (iterate 10 (first | refine hGx _ ?_ | refine hNx _ ?_ | refine W_skip ?_ | refine W_exit ?_ | refine W_ret ?_ | refine W_label ?_ | refine W_scope ?_ | refine W_block ?_ | refine W_seq ?_ | ((first | refine tS fun N hNx => ?_ | refine WL_gE rfl rfl (by kernel_rfl) (by kernel_rfl) fun G hGx => ?_ | refine vcOpsS_sound (by kernel_rfl) ?_ | refine W_ifE fun A B hAx hBx => ?_); refine evT ?_; (first | refine hGx _ ?_ | refine hNx _ ?_ | refine hAx ?_ | refine hBx ?_ | skip)))); (try clear fs))
  obtain ⟨dd, hdd⟩ : ∃ dd, dd = depL (ts.take i) := ⟨_, rfl⟩
  rw [← hdd] at hc' ⊢
  refine W_toR (fun s1 => s1.df = [] ∧ s1.fr 0 = .seq 5 (ts.map tyD) ∧ s1.fr 1 = .seq 1 (dd.map iD) ∧ s1.fr 2 = i64 i ∧ s1.fr 3 = i64 n ∧ s1.fr 9 = .rp [i64 uk, .val (.bool um), i64 ur, i64 ue, .seq 1 (ua.map iD)] ∧ s1.H = H ∧ ¬ ((uk ≠ 3 ∧ (um = true ∨ ur ≠ 0 ∨ ue ≠ 0)) ∨ (uk ≠ 4 ∧ 0 < ua.length))) ?_ ?_
  · by_cases h3 : uk = 3
    · have q3 : (uk = 3) = True := eq_true h3
      have h4 : ¬ uk = 4 := by omega
      have q4 : (uk = 4) = False := eq_false h4
      by_cases h5 : 0 < ua.length
      · have q5 : ((0 : Int) < (ua.length : Int)) = True := eq_true (by omega)
        rw [if_pos (.inr ⟨h4, h5⟩)] at hc'
        (have fs := And.intro @i64.eq_1 (And.intro q3 (And.intro q4 (And.intro q5 hla))); (repeat (first | refine hGx _ ?_ | refine hNx _ ?_ | refine W_skip ?_ | refine W_exit ?_ | refine W_ret ?_ | refine W_label ?_ | refine W_scope ?_ | refine W_block ?_ | refine W_seq ?_ | ((first | refine tS fun N hNx => ?_ | refine WL_gE rfl rfl (by kernel_rfl) (by kernel_rfl) fun G hGx => ?_ | refine vcOpsS_sound (by kernel_rfl) ?_ | refine W_ifE fun A B hAx hBx => ?_); refine evT ?_; (first | refine hGx _ ?_ | refine hNx _ ?_ | refine hAx ?_ | refine hBx ?_ | skip)))); (try clear fs))
        refine ⟨by simp, ?_⟩; (first | (show Q .ret _) | (show Q .normal _) | skip); refine hret _ _ (by first | exact .inr rfl | exact .inl rfl) (by first | rfl | assumption | (simp only [put_df, withH_df]; assumption)) ?_; have fs := @i64.eq_1; refine evT ?_; clear fs; exact ⟨_, Heap.le_refl _, hle, _, frz_refl hle, by rw [hc']; rfl⟩
      · have q5 : ((0 : Int) < (ua.length : Int)) = False := eq_false (by omega)
        (have fs := And.intro @i64.eq_1 (And.intro q3 (And.intro q4 (And.intro q5 hla))); (repeat (first | refine hGx _ ?_ | refine hNx _ ?_ | refine W_skip ?_ | refine W_exit ?_ | refine W_ret ?_ | refine W_label ?_ | refine W_scope ?_ | refine W_block ?_ | refine W_seq ?_ | ((first | refine tS fun N hNx => ?_ | refine WL_gE rfl rfl (by kernel_rfl) (by kernel_rfl) fun G hGx => ?_ | refine vcOpsS_sound (by kernel_rfl) ?_ | refine W_ifE fun A B hAx hBx => ?_); refine evT ?_; (first | refine hGx _ ?_ | refine hNx _ ?_ | refine hAx ?_ | refine hBx ?_ | skip)))); (try clear fs))
        exact ⟨rfl, rfl, rfl, rfl, rfl, rfl, rfl, by omega⟩
    have q3 : (uk = 3) = False := eq_false h3
    by_cases h5 : um = true
    · rw [if_pos (.inl ⟨h3, .inl h5⟩)] at hc'
      subst h5
      (have fs := And.intro @i64.eq_1 q3; (repeat (first | refine hGx _ ?_ | refine hNx _ ?_ | refine W_skip ?_ | refine W_exit ?_ | refine W_ret ?_ | refine W_label ?_ | refine W_scope ?_ | refine W_block ?_ | refine W_seq ?_ | ((first | refine tS fun N hNx => ?_ | refine WL_gE rfl rfl (by kernel_rfl) (by kernel_rfl) fun G hGx => ?_ | refine vcOpsS_sound (by kernel_rfl) ?_ | refine W_ifE fun A B hAx hBx => ?_); refine evT ?_; (first | refine hGx _ ?_ | refine hNx _ ?_ | refine hAx ?_ | refine hBx ?_ | skip)))); (try clear fs))
      refine ⟨by simp, ?_⟩; (first | (show Q .ret _) | (show Q .normal _) | skip); refine hret _ _ (by first | exact .inr rfl | exact .inl rfl) (by first | rfl | assumption | (simp only [put_df, withH_df]; assumption)) ?_; have fs := @i64.eq_1; refine evT ?_; clear fs; exact ⟨_, Heap.le_refl _, hle, _, frz_refl hle, by rw [hc']; rfl⟩
    have h5' : um = false := by simpa using h5
    subst h5'
    by_cases h6 : ur = 0
    case neg =>
      have q6 : (ur = 0) = False := eq_false h6
      rw [if_pos (.inl ⟨h3, .inr (.inl h6)⟩)] at hc'
      (have fs := And.intro @i64.eq_1 (And.intro q3 q6); (repeat (first | refine hGx _ ?_ | refine hNx _ ?_ | refine W_skip ?_ | refine W_exit ?_ | refine W_ret ?_ | refine W_label ?_ | refine W_scope ?_ | refine W_block ?_ | refine W_seq ?_ | ((first | refine tS fun N hNx => ?_ | refine WL_gE rfl rfl (by kernel_rfl) (by kernel_rfl) fun G hGx => ?_ | refine vcOpsS_sound (by kernel_rfl) ?_ | refine W_ifE fun A B hAx hBx => ?_); refine evT ?_; (first | refine hGx _ ?_ | refine hNx _ ?_ | refine hAx ?_ | refine hBx ?_ | skip)))); (try clear fs))
      refine ⟨by simp, ?_⟩; (first | (show Q .ret _) | (show Q .normal _) | skip); refine hret _ _ (by first | exact .inr rfl | exact .inl rfl) (by first | rfl | assumption | (simp only [put_df, withH_df]; assumption)) ?_; have fs := @i64.eq_1; refine evT ?_; clear fs; exact ⟨_, Heap.le_refl _, hle, _, frz_refl hle, by rw [hc']; rfl⟩
    have q6 : (ur = 0) = True := eq_true h6
    by_cases h7 : ue = 0
    case neg =>
      have q7 : (ue = 0) = False := eq_false h7
      rw [if_pos (.inl ⟨h3, .inr (.inr h7)⟩)] at hc'
      (have fs := And.intro @i64.eq_1 (And.intro q3 (And.intro q6 q7)); (repeat (first | refine hGx _ ?_ | refine hNx _ ?_ | refine W_skip ?_ | refine W_exit ?_ | refine W_ret ?_ | refine W_label ?_ | refine W_scope ?_ | refine W_block ?_ | refine W_seq ?_ | ((first | refine tS fun N hNx => ?_ | refine WL_gE rfl rfl (by kernel_rfl) (by kernel_rfl) fun G hGx => ?_ | refine vcOpsS_sound (by kernel_rfl) ?_ | refine W_ifE fun A B hAx hBx => ?_); refine evT ?_; (first | refine hGx _ ?_ | refine hNx _ ?_ | refine hAx ?_ | refine hBx ?_ | skip)))); (try clear fs))
      refine ⟨by simp, ?_⟩; (first | (show Q .ret _) | (show Q .normal _) | skip); refine hret _ _ (by first | exact .inr rfl | exact .inl rfl) (by first | rfl | assumption | (simp only [put_df, withH_df]; assumption)) ?_; have fs := @i64.eq_1; refine evT ?_; clear fs; exact ⟨_, Heap.le_refl _, hle, _, frz_refl hle, by rw [hc']; rfl⟩
    have q7 : (ue = 0) = True := eq_true h7
    by_cases h4 : uk = 4
    · have q4 : (uk = 4) = True := eq_true h4
      (have fs := And.intro @i64.eq_1 (And.intro q3 (And.intro q4 (And.intro q6 q7))); (repeat (first | refine hGx _ ?_ | refine hNx _ ?_ | refine W_skip ?_ | refine W_exit ?_ | refine W_ret ?_ | refine W_label ?_ | refine W_scope ?_ | refine W_block ?_ | refine W_seq ?_ | ((first | refine tS fun N hNx => ?_ | refine WL_gE rfl rfl (by kernel_rfl) (by kernel_rfl) fun G hGx => ?_ | refine vcOpsS_sound (by kernel_rfl) ?_ | refine W_ifE fun A B hAx hBx => ?_); refine evT ?_; (first | refine hGx _ ?_ | refine hNx _ ?_ | refine hAx ?_ | refine hBx ?_ | skip)))); (try clear fs))
      exact ⟨rfl, rfl, rfl, rfl, rfl, rfl, rfl, by rintro (⟨_, h | h | h⟩ | ⟨h, _⟩) <;> first | exact h h6 | exact h h7 | exact h h4 | cases h⟩
    have q4 : (uk = 4) = False := eq_false h4
    by_cases h5 : 0 < ua.length
    · have q5 : ((0 : Int) < (ua.length : Int)) = True := eq_true (by omega)
      rw [if_pos (.inr ⟨h4, h5⟩)] at hc'
      (have fs := And.intro @i64.eq_1 (And.intro q3 (And.intro q4 (And.intro q5 (And.intro q6 (And.intro q7 hla))))); (repeat (first | refine hGx _ ?_ | refine hNx _ ?_ | refine W_skip ?_ | refine W_exit ?_ | refine W_ret ?_ | refine W_label ?_ | refine W_scope ?_ | refine W_block ?_ | refine W_seq ?_ | ((first | refine tS fun N hNx => ?_ | refine WL_gE rfl rfl (by kernel_rfl) (by kernel_rfl) fun G hGx => ?_ | refine vcOpsS_sound (by kernel_rfl) ?_ | refine W_ifE fun A B hAx hBx => ?_); refine evT ?_; (first | refine hGx _ ?_ | refine hNx _ ?_ | refine hAx ?_ | refine hBx ?_ | skip)))); (try clear fs))
      refine ⟨by simp, ?_⟩; (first | (show Q .ret _) | (show Q .normal _) | skip); refine hret _ _ (by first | exact .inr rfl | exact .inl rfl) (by first | rfl | assumption | (simp only [put_df, withH_df]; assumption)) ?_; have fs := @i64.eq_1; refine evT ?_; clear fs; exact ⟨_, Heap.le_refl _, hle, _, frz_refl hle, by rw [hc']; rfl⟩
    · have q5 : ((0 : Int) < (ua.length : Int)) = False := eq_false (by omega)
      (have fs := And.intro @i64.eq_1 (And.intro q3 (And.intro q4 (And.intro q5 (And.intro q6 (And.intro q7 hla))))); (repeat (first | refine hGx _ ?_ | refine hNx _ ?_ | refine W_skip ?_ | refine W_exit ?_ | refine W_ret ?_ | refine W_label ?_ | refine W_scope ?_ | refine W_block ?_ | refine W_seq ?_ | ((first | refine tS fun N hNx => ?_ | refine WL_gE rfl rfl (by kernel_rfl) (by kernel_rfl) fun G hGx => ?_ | refine vcOpsS_sound (by kernel_rfl) ?_ | refine W_ifE fun A B hAx hBx => ?_); refine evT ?_; (first | refine hGx _ ?_ | refine hNx _ ?_ | refine hAx ?_ | refine hBx ?_ | skip)))); (try clear fs))
      exact ⟨rfl, rfl, rfl, rfl, rfl, rfl, rfl, by rintro (⟨_, h | h | h⟩ | ⟨_, h⟩) <;> first | exact h h6 | exact h h7 | exact h5 h | cases h⟩
  rintro s1 ⟨hdf1, g0, g1, g2, g3, g9, hH1, hp1⟩
  rw [if_neg hp1] at hc'
  have hle1 : H.le s1.H := by rw [hH1]; exact hle
  (have fs := @i64.eq_1; (iterate 3 (first | refine hGx _ ?_ | refine hNx _ ?_ | refine W_skip ?_ | refine W_exit ?_ | refine W_ret ?_ | refine W_label ?_ | refine W_scope ?_ | refine W_block ?_ | refine W_seq ?_ | ((first | refine tS fun N hNx => ?_ | refine WL_gE rfl rfl (by kernel_rfl) (by kernel_rfl) fun G hGx => ?_ | refine vcOpsS_sound (by kernel_rfl) ?_ | refine W_ifE fun A B hAx hBx => ?_); refine evT ?_; (first | refine hGx _ ?_ | refine hNx _ ?_ | refine hAx ?_ | refine hBx ?_ | skip)))); (try clear fs))
  have hdl : dd.length = i := by rw [hdd, depL_len, hps]
  refine W_toR (fun s2 => s2.df = [] ∧ s2.fr 0 = .seq 5 (ts.map tyD) ∧ s2.fr 1 = .seq 1 (dd.map iD) ∧ s2.fr 2 = i64 i ∧ s2.fr 3 = i64 n ∧ s2.fr 9 = .rp [i64 uk, .val (.bool um), i64 ur, i64 ue, .seq 1 (ua.map iD)] ∧ s2.H = H ∧ s2.fr 10 = i64 (if uk = 3 then dd.getD ue.toNat 0 else 0) ∧ ¬ (uk = 3 ∧ (ur < 0 ∨ n ≤ ur ∨ ue < 0 ∨ (i : Int) ≤ ue))) ?_ ?_
  · by_cases h3 : uk = 3
    case neg =>
      have q3 : (uk = 3) = False := eq_false h3
      rw [if_neg h3]
      (have fs := And.intro g9 (And.intro @i64.eq_1 q3); (repeat (first | refine hGx _ ?_ | refine hNx _ ?_ | refine W_skip ?_ | refine W_exit ?_ | refine W_ret ?_ | refine W_label ?_ | refine W_scope ?_ | refine W_block ?_ | refine W_seq ?_ | ((first | refine tS fun N hNx => ?_ | refine WL_gE rfl rfl (by kernel_rfl) (by kernel_rfl) fun G hGx => ?_ | refine vcOpsS_sound (by kernel_rfl) ?_ | refine W_ifE fun A B hAx hBx => ?_); refine evT ?_; (first | refine hGx _ ?_ | refine hNx _ ?_ | refine hAx ?_ | refine hBx ?_ | skip)))); (try clear fs))
      exact ⟨hdf1, g0, g1, g2, g3, g9, hH1, rfl, fun h => h3 h.1⟩
    have q3 : (uk = 3) = True := eq_true h3
    rw [if_pos h3]
    by_cases h4 : ur < 0
    · have q4 : (ur < 0) = True := eq_true h4
      rw [if_pos ⟨h3, .inl h4⟩] at hc'
      (have fs := And.intro g9 (And.intro @i64.eq_1 (And.intro q3 q4)); (repeat (first | refine hGx _ ?_ | refine hNx _ ?_ | refine W_skip ?_ | refine W_exit ?_ | refine W_ret ?_ | refine W_label ?_ | refine W_scope ?_ | refine W_block ?_ | refine W_seq ?_ | ((first | refine tS fun N hNx => ?_ | refine WL_gE rfl rfl (by kernel_rfl) (by kernel_rfl) fun G hGx => ?_ | refine vcOpsS_sound (by kernel_rfl) ?_ | refine W_ifE fun A B hAx hBx => ?_); refine evT ?_; (first | refine hGx _ ?_ | refine hNx _ ?_ | refine hAx ?_ | refine hBx ?_ | skip)))); (try clear fs))
      refine ⟨by simp, ?_⟩; (first | (show Q .ret _) | (show Q .normal _) | skip); refine hret _ _ (by first | exact .inr rfl | exact .inl rfl) (by first | rfl | assumption | (simp only [put_df, withH_df]; assumption)) ?_; have fs := hdf1; refine evT ?_; clear fs; exact ⟨_, Heap.le_refl _, hle1, _, frz_refl hle1, by rw [hc']; rfl⟩
    have q4 : (ur < 0) = False := eq_false h4
    by_cases h5 : n ≤ ur
    · have q5 : (n ≤ ur) = True := eq_true h5
      rw [if_pos ⟨h3, .inr (.inl h5)⟩] at hc'
      (have fs := And.intro g3 (And.intro g9 (And.intro @i64.eq_1 (And.intro q3 (And.intro q4 q5)))); (repeat (first | refine hGx _ ?_ | refine hNx _ ?_ | refine W_skip ?_ | refine W_exit ?_ | refine W_ret ?_ | refine W_label ?_ | refine W_scope ?_ | refine W_block ?_ | refine W_seq ?_ | ((first | refine tS fun N hNx => ?_ | refine WL_gE rfl rfl (by kernel_rfl) (by kernel_rfl) fun G hGx => ?_ | refine vcOpsS_sound (by kernel_rfl) ?_ | refine W_ifE fun A B hAx hBx => ?_); refine evT ?_; (first | refine hGx _ ?_ | refine hNx _ ?_ | refine hAx ?_ | refine hBx ?_ | skip)))); (try clear fs))
      refine ⟨by simp, ?_⟩; (first | (show Q .ret _) | (show Q .normal _) | skip); refine hret _ _ (by first | exact .inr rfl | exact .inl rfl) (by first | rfl | assumption | (simp only [put_df, withH_df]; assumption)) ?_; have fs := hdf1; refine evT ?_; clear fs; exact ⟨_, Heap.le_refl _, hle1, _, frz_refl hle1, by rw [hc']; rfl⟩
    have q5 : (n ≤ ur) = False := eq_false h5
    by_cases h6 : ue < 0
    · have q6 : (ue < 0) = True := eq_true h6
      rw [if_pos ⟨h3, .inr (.inr (.inl h6))⟩] at hc'
      (have fs := And.intro g3 (And.intro g9 (And.intro @i64.eq_1 (And.intro q3 (And.intro q4 (And.intro q5 q6))))); (repeat (first | refine hGx _ ?_ | refine hNx _ ?_ | refine W_skip ?_ | refine W_exit ?_ | refine W_ret ?_ | refine W_label ?_ | refine W_scope ?_ | refine W_block ?_ | refine W_seq ?_ | ((first | refine tS fun N hNx => ?_ | refine WL_gE rfl rfl (by kernel_rfl) (by kernel_rfl) fun G hGx => ?_ | refine vcOpsS_sound (by kernel_rfl) ?_ | refine W_ifE fun A B hAx hBx => ?_); refine evT ?_; (first | refine hGx _ ?_ | refine hNx _ ?_ | refine hAx ?_ | refine hBx ?_ | skip)))); (try clear fs))
      refine ⟨by simp, ?_⟩; (first | (show Q .ret _) | (show Q .normal _) | skip); refine hret _ _ (by first | exact .inr rfl | exact .inl rfl) (by first | rfl | assumption | (simp only [put_df, withH_df]; assumption)) ?_; have fs := hdf1; refine evT ?_; clear fs; exact ⟨_, Heap.le_refl _, hle1, _, frz_refl hle1, by rw [hc']; rfl⟩
    have q6 : (ue < 0) = False := eq_false h6
    by_cases h7 : (i : Int) ≤ ue
    · have q7 : ((i : Int) ≤ ue) = True := eq_true h7
      rw [if_pos ⟨h3, .inr (.inr (.inr h7))⟩] at hc'
      (have fs := And.intro g2 (And.intro g3 (And.intro g9 (And.intro @i64.eq_1 (And.intro q3 (And.intro q4 (And.intro q5 (And.intro q6 q7))))))); (repeat (first | refine hGx _ ?_ | refine hNx _ ?_ | refine W_skip ?_ | refine W_exit ?_ | refine W_ret ?_ | refine W_label ?_ | refine W_scope ?_ | refine W_block ?_ | refine W_seq ?_ | ((first | refine tS fun N hNx => ?_ | refine WL_gE rfl rfl (by kernel_rfl) (by kernel_rfl) fun G hGx => ?_ | refine vcOpsS_sound (by kernel_rfl) ?_ | refine W_ifE fun A B hAx hBx => ?_); refine evT ?_; (first | refine hGx _ ?_ | refine hNx _ ?_ | refine hAx ?_ | refine hBx ?_ | skip)))); (try clear fs))
      refine ⟨by simp, ?_⟩; (first | (show Q .ret _) | (show Q .normal _) | skip); refine hret _ _ (by first | exact .inr rfl | exact .inl rfl) (by first | rfl | assumption | (simp only [put_df, withH_df]; assumption)) ?_; have fs := hdf1; refine evT ?_; clear fs; exact ⟨_, Heap.le_refl _, hle1, _, frz_refl hle1, by rw [hc']; rfl⟩
    have q7 : ((i : Int) ≤ ue) = False := eq_false h7
    have hgv := getD_ints (d := dd) (i := ue.toNat) (by omega)
    have h0u : 0 ≤ ue := by omega
    have hdm : (List.map iD dd).length = dd.length := List.length_map _
    have hul : ue.toNat < dd.length := by omega
    have hul' : ue < (dd.length : Int) := by omega
    (have fs := And.intro g1 (And.intro g2 (And.intro g3 (And.intro g9 (And.intro @i64.eq_1 (And.intro q3 (And.intro q4 (And.intro q5 (And.intro q6 (And.intro q7 (And.intro hgv (And.intro h0u (And.intro hdm (And.intro hul hul'))))))))))))); (repeat (first | refine hGx _ ?_ | refine hNx _ ?_ | refine W_skip ?_ | refine W_exit ?_ | refine W_ret ?_ | refine W_label ?_ | refine W_scope ?_ | refine W_block ?_ | refine W_seq ?_ | ((first | refine tS fun N hNx => ?_ | refine WL_gE rfl rfl (by kernel_rfl) (by kernel_rfl) fun G hGx => ?_ | refine vcOpsS_sound (by kernel_rfl) ?_ | refine W_ifE fun A B hAx hBx => ?_); refine evT ?_; (first | refine hGx _ ?_ | refine hNx _ ?_ | refine hAx ?_ | refine hBx ?_ | skip)))); (try clear fs))
    exact ⟨hdf1, g0, g1, g2, g3, g9, hH1, rfl, by omega⟩
  rintro s2 ⟨hdf2, f0, f1, f2, f3, f9, hH2, f10, hp2⟩
  rw [if_neg hp2] at hc'
  have hkm : kidM dd ⟨uk, um, ur, ue, ua⟩ = ua.foldl (kidF dd) (if uk = 3 then dd.getD ue.toNat 0 else 0) := rfl
  have hbd := depL_bd (ts.take i)
  rw [hps, ← hdd] at hbd
  have hk1 := kidM_le (b := i) (fun x hx => (hbd x hx).2) (by omega) ⟨uk, um, ur, ue, ua⟩
  have hk2 := kidM_ge (fun x hx => by have := hbd x hx; omega) ⟨uk, um, ur, ue, ua⟩
  obtain ⟨km, hkme⟩ : ∃ km, km = kidM dd ⟨uk, um, ur, ue, ua⟩ := ⟨_, rfl⟩
  rw [← hkme] at hk1 hk2 hkm hc'
  (have fs := @i64.eq_1; (repeat (first | refine hGx _ ?_ | refine hNx _ ?_ | refine W_skip ?_ | refine W_exit ?_ | refine W_ret ?_ | refine W_label ?_ | refine W_scope ?_ | refine W_block ?_ | refine W_seq ?_ | ((first | refine tS fun N hNx => ?_ | refine WL_gE rfl rfl (by kernel_rfl) (by kernel_rfl) fun G hGx => ?_ | refine vcOpsS_sound (by kernel_rfl) ?_ | refine W_ifE fun A B hAx hBx => ?_); refine evT ?_; (first | refine hGx _ ?_ | refine hNx _ ?_ | refine hAx ?_ | refine hBx ?_ | skip)))); (try clear fs))
  refine W_loopN ua.length (fun j s => s.df = [] ∧ s.fr 0 = .seq 5 (ts.map tyD) ∧ s.fr 1 = .seq 1 (dd.map iD) ∧ s.fr 2 = i64 i ∧ s.fr 9 = .rp [i64 uk, .val (.bool um), i64 ur, i64 ue, .seq 1 (ua.map iD)] ∧ s.H = H ∧ s.fr 11 = i64 j ∧ s.fr 10 = i64 ((ua.take j).foldl (kidF dd) (if uk = 3 then dd.getD ue.toNat 0 else 0)) ∧ ∀ m (h : m < ua.length), m < j → ¬ (ua[m] < 0 ∨ (i : Int) ≤ ua[m])) ⟨hdf2, f0, f1, f2, f9, hH2, rfl, f10, fun m h hm => by omega⟩ ?_
  rintro j s3 hj ⟨hdf3, k0, k1, k2, k9, hH3, k11, k10, hall⟩
  have hle3 : H.le s3.H := by rw [hH3]; exact hle
  have hjx : (j : Int).toNat = j := Int.toNat_natCast _
  have h0j : (0 : Int) ≤ (j : Int) := Int.natCast_nonneg _
  by_cases hjl : j < ua.length
  case pos =>
    have p1 : ((j : Int) < (ua.length : Int)) = True := eq_true (by omega)
    have hgj := get_ints hjl
    have w4 : IntKind.i64.wrap ((j : Int) + 1) = ((j + 1 : Nat) : Int) := by rw [wrap_i64_of (by omega)]; omega
    have hstep : (ua.take (j + 1)).foldl (kidF dd) (if uk = 3 then dd.getD ue.toNat 0 else 0) = max ((ua.take j).foldl (kidF dd) (if uk = 3 then dd.getD ue.toNat 0 else 0)) (dd.getD ua[j].toNat 0) := by
      rw [List.take_succ_eq_append_getElem hjl, List.foldl_append]; rfl
    have hfm : ua[j] ∈ ua := List.getElem_mem hjl
    obtain ⟨f, hfe⟩ : ∃ f, f = ua[j] := ⟨_, rfl⟩
    rw [← hfe] at hgj hstep hfm
    by_cases h4 : f < 0
    · have q4 : (f < 0) = True := eq_true h4
      rw [if_pos ⟨f, hfm, .inl h4⟩] at hc'
      (have fs := And.intro k9 (And.intro k11 (And.intro @i64.eq_1 (And.intro p1 (And.intro hgj (And.intro hjx (And.intro h0j (And.intro hjl (And.intro hla q4)))))))); (repeat (first | refine hGx _ ?_ | refine hNx _ ?_ | refine W_skip ?_ | refine W_exit ?_ | refine W_ret ?_ | refine W_label ?_ | refine W_scope ?_ | refine W_block ?_ | refine W_seq ?_ | ((first | refine tS fun N hNx => ?_ | refine WL_gE rfl rfl (by kernel_rfl) (by kernel_rfl) fun G hGx => ?_ | refine vcOpsS_sound (by kernel_rfl) ?_ | refine W_ifE fun A B hAx hBx => ?_); refine evT ?_; (first | refine hGx _ ?_ | refine hNx _ ?_ | refine hAx ?_ | refine hBx ?_ | skip)))); (try clear fs))
      (first | (show Q .ret _) | (show Q .normal _) | skip); refine hret _ _ (by first | exact .inr rfl | exact .inl rfl) (by first | rfl | assumption | (simp only [put_df, withH_df]; assumption)) ?_; have fs := hdf3; refine evT ?_; clear fs
      exact ⟨_, Heap.le_refl _, hle3, _, frz_refl hle3, by rw [hc']; rfl⟩
    have q4 : (f < 0) = False := eq_false h4
    by_cases h5 : (i : Int) ≤ f
    · have q5 : ((i : Int) ≤ f) = True := eq_true h5
      rw [if_pos ⟨f, hfm, .inr h5⟩] at hc'
      (have fs := And.intro k2 (And.intro k9 (And.intro k11 (And.intro @i64.eq_1 (And.intro p1 (And.intro hgj (And.intro hjx (And.intro h0j (And.intro hjl (And.intro hla (And.intro q4 q5)))))))))); (repeat (first | refine hGx _ ?_ | refine hNx _ ?_ | refine W_skip ?_ | refine W_exit ?_ | refine W_ret ?_ | refine W_label ?_ | refine W_scope ?_ | refine W_block ?_ | refine W_seq ?_ | ((first | refine tS fun N hNx => ?_ | refine WL_gE rfl rfl (by kernel_rfl) (by kernel_rfl) fun G hGx => ?_ | refine vcOpsS_sound (by kernel_rfl) ?_ | refine W_ifE fun A B hAx hBx => ?_); refine evT ?_; (first | refine hGx _ ?_ | refine hNx _ ?_ | refine hAx ?_ | refine hBx ?_ | skip)))); (try clear fs))
      (first | (show Q .ret _) | (show Q .normal _) | skip); refine hret _ _ (by first | exact .inr rfl | exact .inl rfl) (by first | rfl | assumption | (simp only [put_df, withH_df]; assumption)) ?_; have fs := hdf3; refine evT ?_; clear fs
      exact ⟨_, Heap.le_refl _, hle3, _, frz_refl hle3, by rw [hc']; rfl⟩
    have q5 : ((i : Int) ≤ f) = False := eq_false h5
    have hgv := getD_ints (d := dd) (i := f.toNat) (by omega)
    have h0u : 0 ≤ f := by omega
    have hdm : (List.map iD dd).length = dd.length := List.length_map _
    have hul : f.toNat < dd.length := by omega
    have hul' : f < (dd.length : Int) := by omega
    (have fs := And.intro k1 (And.intro k2 (And.intro k9 (And.intro k10 (And.intro k11 (And.intro @i64.eq_1 (And.intro p1 (And.intro hgj (And.intro hjx (And.intro h0j (And.intro hjl (And.intro hla (And.intro q4 (And.intro q5 (And.intro hgv (And.intro h0u (And.intro hdm (And.intro hul (And.intro hul' w4)))))))))))))))))); (repeat (first | refine hGx _ ?_ | refine hNx _ ?_ | refine W_skip ?_ | refine W_exit ?_ | refine W_ret ?_ | refine W_label ?_ | refine W_scope ?_ | refine W_block ?_ | refine W_seq ?_ | ((first | refine tS fun N hNx => ?_ | refine WL_gE rfl rfl (by kernel_rfl) (by kernel_rfl) fun G hGx => ?_ | refine vcOpsS_sound (by kernel_rfl) ?_ | refine W_ifE fun A B hAx hBx => ?_); refine evT ?_; (first | refine hGx _ ?_ | refine hNx _ ?_ | refine hAx ?_ | refine hBx ?_ | skip)))); (try clear fs))
    refine ⟨hjl, hdf3, k0, k1, k2, k9, hH3, rfl, by rw [hstep]; rfl, fun m hm hmj => ?_⟩
    by_cases hme : m = j
    · subst hme; rw [← hfe]; omega
    · exact hall m hm (by omega)
  have p1 : ((j : Int) < (ua.length : Int)) = False := eq_false (by omega)
  rw [List.take_of_length_le (by omega), ← hkm] at k10
  have hp3 : ¬ ∃ f ∈ ua, f < 0 ∨ (i : Int) ≤ f := by
    rintro ⟨f, hf, hb⟩
    obtain ⟨m, hm, rfl⟩ := List.getElem_of_mem hf
    exact hall m hm (by omega) hb
  rw [if_neg hp3] at hc'
  have w5 : IntKind.i64.wrap (km + 1) = km + 1 := wrap_i64_of (by omega)
  (have fs := And.intro k9 (And.intro k10 (And.intro k11 (And.intro @i64.eq_1 (And.intro p1 (And.intro hla w5))))); (iterate 6 (first | refine hGx _ ?_ | refine hNx _ ?_ | refine W_skip ?_ | refine W_exit ?_ | refine W_ret ?_ | refine W_label ?_ | refine W_scope ?_ | refine W_block ?_ | refine W_seq ?_ | ((first | refine tS fun N hNx => ?_ | refine WL_gE rfl rfl (by kernel_rfl) (by kernel_rfl) fun G hGx => ?_ | refine vcOpsS_sound (by kernel_rfl) ?_ | refine W_ifE fun A B hAx hBx => ?_); refine evT ?_; (first | refine hGx _ ?_ | refine hNx _ ?_ | refine hAx ?_ | refine hBx ?_ | skip)))); (try clear fs))
  refine W_toR (fun s4 => s4.df = [] ∧ s4.fr 0 = .seq 5 (ts.map tyD) ∧ s4.fr 2 = i64 i ∧ s4.fr 9 = .rp [i64 uk, .val (.bool um), i64 ur, i64 ue, .seq 1 (ua.map iD)] ∧ s4.H = H ∧ s4.fr 10 = i64 km ∧ ¬ (uk = 4 ∧ (ua.length = 0 ∨ 65535 < ua.length))) ?_ ?_
  · by_cases h4 : uk = 4
    case neg =>
      have q4 : (uk = 4) = False := eq_false h4
      (have fs := And.intro k9 (And.intro @i64.eq_1 q4); (repeat (first | refine hGx _ ?_ | refine hNx _ ?_ | refine W_skip ?_ | refine W_exit ?_ | refine W_ret ?_ | refine W_label ?_ | refine W_scope ?_ | refine W_block ?_ | refine W_seq ?_ | ((first | refine tS fun N hNx => ?_ | refine WL_gE rfl rfl (by kernel_rfl) (by kernel_rfl) fun G hGx => ?_ | refine vcOpsS_sound (by kernel_rfl) ?_ | refine W_ifE fun A B hAx hBx => ?_); refine evT ?_; (first | refine hGx _ ?_ | refine hNx _ ?_ | refine hAx ?_ | refine hBx ?_ | skip)))); (try clear fs))
      exact ⟨hdf3, k0, k2, k9, hH3, k10, fun h => h4 h.1⟩
    have q4 : (uk = 4) = True := eq_true h4
    by_cases h5 : ua.length = 0
    · have q5 : ((ua.length : Int) = 0) = True := eq_true (by omega)
      rw [if_pos ⟨h4, .inl h5⟩] at hc'
      (have fs := And.intro k9 (And.intro @i64.eq_1 (And.intro q4 (And.intro q5 hla))); (repeat (first | refine hGx _ ?_ | refine hNx _ ?_ | refine W_skip ?_ | refine W_exit ?_ | refine W_ret ?_ | refine W_label ?_ | refine W_scope ?_ | refine W_block ?_ | refine W_seq ?_ | ((first | refine tS fun N hNx => ?_ | refine WL_gE rfl rfl (by kernel_rfl) (by kernel_rfl) fun G hGx => ?_ | refine vcOpsS_sound (by kernel_rfl) ?_ | refine W_ifE fun A B hAx hBx => ?_); refine evT ?_; (first | refine hGx _ ?_ | refine hNx _ ?_ | refine hAx ?_ | refine hBx ?_ | skip)))); (try clear fs))
      refine ⟨by simp, ?_⟩; (first | (show Q .ret _) | (show Q .normal _) | skip); refine hret _ _ (by first | exact .inr rfl | exact .inl rfl) (by first | rfl | assumption | (simp only [put_df, withH_df]; assumption)) ?_; have fs := hdf3; refine evT ?_; clear fs; exact ⟨_, Heap.le_refl _, hle3, _, frz_refl hle3, by rw [hc']; rfl⟩
    have q5 : ((ua.length : Int) = 0) = False := eq_false (by omega)
    by_cases h6 : 65535 < ua.length
    · have q6 : ((65535 : Int) < (ua.length : Int)) = True := eq_true (by omega)
      rw [if_pos ⟨h4, .inr h6⟩] at hc'
      (have fs := And.intro k9 (And.intro @i64.eq_1 (And.intro q4 (And.intro q5 (And.intro q6 hla)))); (repeat (first | refine hGx _ ?_ | refine hNx _ ?_ | refine W_skip ?_ | refine W_exit ?_ | refine W_ret ?_ | refine W_label ?_ | refine W_scope ?_ | refine W_block ?_ | refine W_seq ?_ | ((first | refine tS fun N hNx => ?_ | refine WL_gE rfl rfl (by kernel_rfl) (by kernel_rfl) fun G hGx => ?_ | refine vcOpsS_sound (by kernel_rfl) ?_ | refine W_ifE fun A B hAx hBx => ?_); refine evT ?_; (first | refine hGx _ ?_ | refine hNx _ ?_ | refine hAx ?_ | refine hBx ?_ | skip)))); (try clear fs))
      refine ⟨by simp, ?_⟩; (first | (show Q .ret _) | (show Q .normal _) | skip); refine hret _ _ (by first | exact .inr rfl | exact .inl rfl) (by first | rfl | assumption | (simp only [put_df, withH_df]; assumption)) ?_; have fs := hdf3; refine evT ?_; clear fs; exact ⟨_, Heap.le_refl _, hle3, _, frz_refl hle3, by rw [hc']; rfl⟩
    have q6 : ((65535 : Int) < (ua.length : Int)) = False := eq_false (by omega)
    (have fs := And.intro k9 (And.intro @i64.eq_1 (And.intro q4 (And.intro q5 (And.intro q6 hla)))); (repeat (first | refine hGx _ ?_ | refine hNx _ ?_ | refine W_skip ?_ | refine W_exit ?_ | refine W_ret ?_ | refine W_label ?_ | refine W_scope ?_ | refine W_block ?_ | refine W_seq ?_ | ((first | refine tS fun N hNx => ?_ | refine WL_gE rfl rfl (by kernel_rfl) (by kernel_rfl) fun G hGx => ?_ | refine vcOpsS_sound (by kernel_rfl) ?_ | refine W_ifE fun A B hAx hBx => ?_); refine evT ?_; (first | refine hGx _ ?_ | refine hNx _ ?_ | refine hAx ?_ | refine hBx ?_ | skip)))); (try clear fs))
    exact ⟨hdf3, k0, k2, k9, hH3, k10, by omega⟩
  rintro s4 ⟨hdf4, m0, m2, m9, hH4, m10, hp4⟩
  rw [if_neg hp4] at hc'
  have hle4 : H.le s4.H := by rw [hH4]; exact hle
  by_cases h6 : 32 < km + 1
  · have q6 : (32 < km + 1) = True := eq_true h6
    rw [if_pos h6] at hc'
    (have fs := And.intro m10 (And.intro @i64.eq_1 (And.intro w5 q6)); (repeat (first | refine hGx _ ?_ | refine hNx _ ?_ | refine W_skip ?_ | refine W_exit ?_ | refine W_ret ?_ | refine W_label ?_ | refine W_scope ?_ | refine W_block ?_ | refine W_seq ?_ | ((first | refine tS fun N hNx => ?_ | refine WL_gE rfl rfl (by kernel_rfl) (by kernel_rfl) fun G hGx => ?_ | refine vcOpsS_sound (by kernel_rfl) ?_ | refine W_ifE fun A B hAx hBx => ?_); refine evT ?_; (first | refine hGx _ ?_ | refine hNx _ ?_ | refine hAx ?_ | refine hBx ?_ | skip)))); (try clear fs))
    (first | (show Q .ret _) | (show Q .normal _) | skip); refine hret _ _ (by first | exact .inr rfl | exact .inl rfl) (by first | rfl | assumption | (simp only [put_df, withH_df]; assumption)) ?_; have fs := hdf4; refine evT ?_; clear fs
    exact ⟨_, Heap.le_refl _, hle4, _, frz_refl hle4, by rw [hc']; rfl⟩
  have q6 : (32 < km + 1) = False := eq_false h6
  rw [if_neg h6] at hc'
  (have fs := And.intro m10 (And.intro @i64.eq_1 (And.intro w5 q6)); (repeat (first | refine hGx _ ?_ | refine hNx _ ?_ | refine W_skip ?_ | refine W_exit ?_ | refine W_ret ?_ | refine W_label ?_ | refine W_scope ?_ | refine W_block ?_ | refine W_seq ?_ | ((first | refine tS fun N hNx => ?_ | refine WL_gE rfl rfl (by kernel_rfl) (by kernel_rfl) fun G hGx => ?_ | refine vcOpsS_sound (by kernel_rfl) ?_ | refine W_ifE fun A B hAx hBx => ?_); refine evT ?_; (first | refine hGx _ ?_ | refine hNx _ ?_ | refine hAx ?_ | refine hBx ?_ | skip)))); (try clear fs))
  have hfl := fndI_iff (t := ⟨uk, um, ur, ue, ua⟩) (l := ts.take i)
  have hcall : CallOK Try.prog 36 [.seq 5 ((ts.take i).map tyD), .agg [i64 uk, .val (.bool um), i64 ur, i64 ue, .seq 1 (ua.map iD)]] s4.H fun d A => A = Heap.none ∧ d = i64 (fndI ⟨uk, um, ur, ue, ua⟩ (ts.take i) 0) := callOK_eq fun H'' hle'' => kfind_N (ts.take i) ⟨uk, um, ur, ue, ua⟩ H'' (by rw [hps]; omega) (fun u hu => har u (List.mem_of_mem_take hu))
  obtain ⟨r, hr⟩ : ∃ r, r = fndI ⟨uk, um, ur, ue, ua⟩ (ts.take i) 0 := ⟨_, rfl⟩
  rw [← hr] at hcall hfl
  rw [List.map_take] at hcall
  have hil' : i ≤ ts.length := by omega
  have hil2 : ((i : Int) ≤ (ts.length : Int)) = True := eq_true (by omega)
  simp only [i64] at hcall
  refine W_drawE (fun _ _ d A => A = .none ∧ d = .val (.int .i64 r)) (by kernel_rfl) (by kernel_rfl) (by kernel_rfl) fun N hNx => ?_; (have fs := And.intro m0 (And.intro m2 (And.intro m9 (And.intro @i64.eq_1 (And.intro htyl (And.intro hx (And.intro h00 (And.intro hil' hil2))))))); (repeat ((first | refine vcD_g rfl rfl fun G hGx => ?_ | refine vcDS_to ?_); refine evD ?_; (first | refine hGx _ ?_ | refine hNx _ ?_ | skip))); (try clear fs))
  refine ⟨hcall, ?_⟩
  (first | refine hGx _ ?_ | refine hNx _ ?_ | skip)
  by_cases hm : (⟨uk, um, ur, ue, ua⟩ : TyS) ∈ ts.take i
  · have q7 : (0 ≤ r) = True := eq_true (hfl.2 hm)
    rw [if_pos hm] at hc'
    (have fs := And.intro @i64.eq_1 q7; (repeat (first | refine hGx _ ?_ | refine hNx _ ?_ | refine W_skip ?_ | refine W_exit ?_ | refine W_ret ?_ | refine W_label ?_ | refine W_scope ?_ | refine W_block ?_ | refine W_seq ?_ | ((first | refine tS fun N hNx => ?_ | refine WL_gE rfl rfl (by kernel_rfl) (by kernel_rfl) fun G hGx => ?_ | refine vcOpsS_sound (by kernel_rfl) ?_ | refine W_ifE fun A B hAx hBx => ?_); refine evT ?_; (first | refine hGx _ ?_ | refine hNx _ ?_ | refine hAx ?_ | refine hBx ?_ | skip)))); (try clear fs))
    (first | (show Q .ret _) | (show Q .normal _) | skip); refine hret _ _ (by first | exact .inr rfl | exact .inl rfl) (by first | rfl | assumption | (simp only [put_df, withH_df]; assumption)) ?_; have fs := hdf4; refine evT ?_; clear fs
    exact ⟨_, Heap.le_refl _, hle4, _, frz_refl hle4, by rw [hc']; rfl⟩
  · have q7 : (0 ≤ r) = False := eq_false fun h => hm (hfl.1 h)
    rw [if_neg hm] at hc'
    (have fs := And.intro @i64.eq_1 q7; (repeat (first | refine hGx _ ?_ | refine hNx _ ?_ | refine W_skip ?_ | refine W_exit ?_ | refine W_ret ?_ | refine W_label ?_ | refine W_scope ?_ | refine W_block ?_ | refine W_seq ?_ | ((first | refine tS fun N hNx => ?_ | refine WL_gE rfl rfl (by kernel_rfl) (by kernel_rfl) fun G hGx => ?_ | refine vcOpsS_sound (by kernel_rfl) ?_ | refine W_ifE fun A B hAx hBx => ?_); refine evT ?_; (first | refine hGx _ ?_ | refine hNx _ ?_ | refine hAx ?_ | refine hBx ?_ | skip)))); (try clear fs))
    (first | (show Q .ret _) | (show Q .normal _) | skip); refine hret _ _ (by first | exact .inr rfl | exact .inl rfl) (by first | rfl | assumption | (simp only [put_df, withH_df]; assumption)) ?_; have fs := hdf4; refine evT ?_; clear fs
    exact ⟨_, Heap.le_refl _, hle4, _, frz_refl hle4, by rw [hc']; rfl⟩
set_option maxHeartbeats 1000000 in
theorem kchk_N (ts : List TyS) (n : Int) (H : Heap) (htl : ts.length ≤ 140737488351232) (har : ∀ u ∈ ts, u.ar.length ≤ 140737488351232) :
    Does Try.prog 34 [.seq 5 (ts.map tyD), i64 n] H fun d H' => d = i64 (chkT ts n) ∧ H = H' := by
  refine Does.frz (K := fun d => d = i64 (chkT ts n)) ?_
  have hle := Heap.le_refl H
  have htyl : (List.map tyD ts).length = ts.length := List.length_map _
  have hct : chkT ts n = if 65535 < ts.length then 15 else chkS n [] ts := rfl
  refine does_of _ _ Try.func34 rfl rfl Try.ntmps34 Try.results34 (by simp only [List.length_cons, List.length_nil]; omega) fun w0 Q hret => ?_
  by_cases h1 : 65535 < ts.length
  · have q1 : ((65535 : Int) < (ts.length : Int)) = True := eq_true (by omega)
    rw [if_pos h1] at hct
    (have fs := And.intro @i64.eq_1 (And.intro htyl q1); (repeat (first | refine hGx _ ?_ | refine hNx _ ?_ | refine W_skip ?_ | refine W_exit ?_ | refine W_ret ?_ | refine W_label ?_ | refine W_scope ?_ | refine W_block ?_ | refine W_seq ?_ | ((first | refine tS fun N hNx => ?_ | refine WL_gE rfl rfl (by kernel_rfl) (by kernel_rfl) fun G hGx => ?_ | refine vcOpsS_sound (by kernel_rfl) ?_ | refine W_ifE fun A B hAx hBx => ?_); refine evT ?_; (first | refine hGx _ ?_ | refine hNx _ ?_ | refine hAx ?_ | refine hBx ?_ | skip)))); (try clear fs))
    (first | (show Q .ret _) | (show Q .normal _) | skip); refine hret _ _ (by first | exact .inr rfl | exact .inl rfl) (by first | rfl | assumption | (simp only [put_df, withH_df]; assumption)) ?_; have fs := @i64.eq_1; refine evT ?_; clear fs
    exact ⟨_, Heap.le_refl _, hle, _, frz_refl hle, by rw [hct]; rfl⟩
  have q1 : ((65535 : Int) < (ts.length : Int)) = False := eq_false (by omega)
  rw [if_neg h1] at hct
  (have fs := And.intro @i64.eq_1 (And.intro htyl q1); (repeat (first | refine hGx _ ?_ | refine hNx _ ?_ | refine W_skip ?_ | refine W_exit ?_ | refine W_ret ?_ | refine W_label ?_ | refine W_scope ?_ | refine W_block ?_ | refine W_seq ?_ | ((first | refine tS fun N hNx => ?_ | refine WL_gE rfl rfl (by kernel_rfl) (by kernel_rfl) fun G hGx => ?_ | refine vcOpsS_sound (by kernel_rfl) ?_ | refine W_ifE fun A B hAx hBx => ?_); refine evT ?_; (first | refine hGx _ ?_ | refine hNx _ ?_ | refine hAx ?_ | refine hBx ?_ | skip)))); (try clear fs))
  refine W_as 5 (.seq 1 []) (fun w v hv => imp_nil _ _ _ hv) ?_
  refine W_loopN ts.length (fun i s => s.df = [] ∧ s.fr 0 = .seq 5 (ts.map tyD) ∧ s.fr 1 = i64 n ∧ s.fr 5 = .seq 1 ((depL (ts.take i)).map iD) ∧ s.fr 6 = i64 i ∧ s.H = H ∧ chkS n [] (ts.take i) = 0) ⟨rfl, rfl, rfl, rfl, rfl, rfl, rfl⟩ ?_
  rintro i s hi ⟨hdf, f0, f1, f5, f6, hH, hok⟩
  have hleS : H.le s.H := by rw [hH]; exact hle
  by_cases hil : i < ts.length
  case neg =>
    have q2 : ((i : Int) < (ts.length : Int)) = False := eq_false (by omega)
    rw [List.take_of_length_le (by omega)] at hok
    (have fs := And.intro f0 (And.intro f6 (And.intro @i64.eq_1 (And.intro htyl q2))); (repeat (first | refine hGx _ ?_ | refine hNx _ ?_ | refine W_skip ?_ | refine W_exit ?_ | refine W_ret ?_ | refine W_label ?_ | refine W_scope ?_ | refine W_block ?_ | refine W_seq ?_ | ((first | refine tS fun N hNx => ?_ | refine WL_gE rfl rfl (by kernel_rfl) (by kernel_rfl) fun G hGx => ?_ | refine vcOpsS_sound (by kernel_rfl) ?_ | refine W_ifE fun A B hAx hBx => ?_); refine evT ?_; (first | refine hGx _ ?_ | refine hNx _ ?_ | refine hAx ?_ | refine hBx ?_ | skip)))); (try clear fs))
    (first | (show Q .ret _) | (show Q .normal _) | skip); refine hret _ _ (by first | exact .inr rfl | exact .inl rfl) (by first | rfl | assumption | (simp only [put_df, withH_df]; assumption)) ?_; have fs := hdf; refine evT ?_; clear fs
    exact ⟨_, Heap.le_refl _, hleS, _, frz_refl hleS, by rw [hct, hok]; rfl⟩
  have q2 : ((i : Int) < (ts.length : Int)) = True := eq_true (by omega)
  have w3 : IntKind.i64.wrap ((i : Int) + 1) = ((i + 1 : Nat) : Int) := by rw [wrap_i64_of (by omega)]; omega
  have hwf : wfT (ts.take i) := wf_of_ok (n := n) fun m hm => by simpa using chkS_ok.1 hok m hm
  have hsn := chkS_snoc (t := ts[i]) hok
  rw [← List.take_succ_eq_append_getElem hil, List.nil_append] at hsn
  (have fs := And.intro f0 (And.intro f1 (And.intro f5 (And.intro f6 (And.intro @i64.eq_1 (And.intro htyl q2))))); (repeat (first | refine hGx _ ?_ | refine hNx _ ?_ | refine W_skip ?_ | refine W_exit ?_ | refine W_ret ?_ | refine W_label ?_ | refine W_scope ?_ | refine W_block ?_ | refine W_seq ?_ | ((first | refine tS fun N hNx => ?_ | refine WL_gE rfl rfl (by kernel_rfl) (by kernel_rfl) fun G hGx => ?_ | refine vcOpsS_sound (by kernel_rfl) ?_ | refine W_ifE fun A B hAx hBx => ?_); refine evT ?_; (first | refine hGx _ ?_ | refine hNx _ ?_ | refine hAx ?_ | refine hBx ?_ | skip)))); (try clear fs))
  refine (kchk1_N ts i n _ hil (by omega) har hwf).mono ?_
  rintro d _ ⟨rfl, rfl⟩
  by_cases hc : chk1 (ts.take i) n ts[i] = 0
  case neg =>
    have q3 : ((chk1 (ts.take i) n ts[i] : Int) = 0) = False := eq_false (by omega)
    have happ := chkS_app (us := ts.drop (i + 1)) (by rw [hsn]; exact hc)
    rw [List.take_append_drop] at happ
    (have fs := And.intro @i64.eq_1 q3; (repeat (first | refine hGx _ ?_ | refine hNx _ ?_ | refine W_skip ?_ | refine W_exit ?_ | refine W_ret ?_ | refine W_label ?_ | refine W_scope ?_ | refine W_block ?_ | refine W_seq ?_ | ((first | refine tS fun N hNx => ?_ | refine WL_gE rfl rfl (by kernel_rfl) (by kernel_rfl) fun G hGx => ?_ | refine vcOpsS_sound (by kernel_rfl) ?_ | refine W_ifE fun A B hAx hBx => ?_); refine evT ?_; (first | refine hGx _ ?_ | refine hNx _ ?_ | refine hAx ?_ | refine hBx ?_ | skip)))); (try clear fs))
    (first | (show Q .ret _) | (show Q .normal _) | skip); refine hret _ _ (by first | exact .inr rfl | exact .inl rfl) (by first | rfl | assumption | (simp only [put_df, withH_df]; assumption)) ?_; have fs := hdf; refine evT ?_; clear fs
    exact ⟨_, Heap.le_refl _, hleS, _, frz_refl hleS, by rw [hct, happ, hsn]; rfl⟩
  have hwf2 : wfT (ts.take (i + 1)) := wf_of_ok (n := n) fun m hm => by simpa using chkS_ok.1 (hsn.trans hc) m hm
  rw [hc]
  (have fs := And.intro f0 (And.intro f6 (And.intro @i64.eq_1 w3)); (repeat (first | refine hGx _ ?_ | refine hNx _ ?_ | refine W_skip ?_ | refine W_exit ?_ | refine W_ret ?_ | refine W_label ?_ | refine W_scope ?_ | refine W_block ?_ | refine W_seq ?_ | ((first | refine tS fun N hNx => ?_ | refine WL_gE rfl rfl (by kernel_rfl) (by kernel_rfl) fun G hGx => ?_ | refine vcOpsS_sound (by kernel_rfl) ?_ | refine W_ifE fun A B hAx hBx => ?_); refine evT ?_; (first | refine hGx _ ?_ | refine hNx _ ?_ | refine hAx ?_ | refine hBx ?_ | skip)))); (try clear fs))
  refine (kdeps_N ts (i + 1) _ (by omega) (by omega) har hwf2).mono ?_
  rintro d _ ⟨rfl, rfl⟩
  (have fs := And.intro f6 (And.intro @i64.eq_1 w3); (repeat (first | refine hGx _ ?_ | refine hNx _ ?_ | refine W_skip ?_ | refine W_exit ?_ | refine W_ret ?_ | refine W_label ?_ | refine W_scope ?_ | refine W_block ?_ | refine W_seq ?_ | ((first | refine tS fun N hNx => ?_ | refine WL_gE rfl rfl (by kernel_rfl) (by kernel_rfl) fun G hGx => ?_ | refine vcOpsS_sound (by kernel_rfl) ?_ | refine W_ifE fun A B hAx hBx => ?_); refine evT ?_; (first | refine hGx _ ?_ | refine hNx _ ?_ | refine hAx ?_ | refine hBx ?_ | skip)))); (try clear fs))
  exact ⟨hil, hdf, f0, f1, rfl, rfl, hH, hsn.trans hc⟩
end Go.Proofs.Ytbcghjcakincoaa
