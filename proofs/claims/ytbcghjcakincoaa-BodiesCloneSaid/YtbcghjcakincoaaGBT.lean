/- Lemmas and contracts of functions, several texts in one: BI BK. -/
import Derived.Test.YtbcghjcakincoaaGBR
import Derived.Test.YtbcghjcakincoaaGBS
/- Bodies: nodes (written by gen_bod4.py). -/
namespace Go.Proofs.Ytbcghjcakincoaa
open Go.RowKit
set_option linter.unusedVariables false
set_option maxRecDepth 100000
set_option linter.unusedSimpArgs false
def smB (b : BdS) : Prop := smL b ∧ b.ol.length ≤ 1000000 ∧ b.ty.length ≤ 1000000 ∧ (∀ x ∈ b.bl, smBk x) ∧ nodesT b ≤ 1000000
def nPl (l : List PlS) : Nat := sm (fun p => 1 + p.pr.length) l
theorem pn_le (l : List PlS) : l.length ≤ nPl l := by
  unfold nPl
  induction l with
  | nil => simp [sm]
  | cons x l ih => simp only [sm, List.length_cons]; omega
theorem pn_one (p : PlS) : nPl [p] = 1 + p.pr.length := by unfold nPl; simp [sm]
theorem pn_two (p q : PlS) : nPl [p, q] = 2 + p.pr.length + q.pr.length := by unfold nPl; simp [sm]; omega
set_option maxHeartbeats 1000000 in
theorem pn_N (l : List PlS) (H : Heap) (hs : nPl l ≤ 1000000000) : Does Try.prog 61 [.seq 2 (l.map plD)] H fun d H' => d = i64 (nPl l) ∧ H = H' := by
  refine Does.frz (K := fun d => d = i64 (nPl l)) ?_
  have hll : (List.map plD l).length = l.length := List.length_map _
  have hl := pn_le l
  have hsum : ∀ k, k ≤ l.length → l.length + sm (fun p : PlS => p.pr.length) (l.take k) ≤ nPl l := fun k hk => by
    have h1 := sm_le (fun p : PlS => p.pr.length) l k
    have h2 : nPl l = l.length + sm (fun p : PlS => p.pr.length) l := by unfold nPl; rw [sm_add, sm_len]
    omega
  refine does_of _ _ Try.func61 rfl rfl Try.ntmps61 Try.results61 (by simp only [List.length_cons, List.length_nil]; omega) fun w0 Q hret => ?_
  (have fs := And.intro @i64.eq_1 hll; (repeat (first | refine hGx _ ?_ | refine hNx _ ?_ | refine W_skip ?_ | refine W_exit ?_ | refine W_ret ?_ | refine W_label ?_ | refine W_scope ?_ | refine W_block ?_ | refine W_seq ?_ | ((first | refine tS fun N hNx => ?_ | refine WL_gE rfl rfl (by kernel_rfl) (by kernel_rfl) fun G hGx => ?_ | refine vcOpsS_sound (by kernel_rfl) ?_ | refine W_ifE fun A B hAx hBx => ?_); refine evT ?_; (first | refine hGx _ ?_ | refine hNx _ ?_ | refine hAx ?_ | refine hBx ?_ | skip)))); (try clear fs))
  refine W_loopN l.length (fun i s => s.df = [] ∧ s.fr 8 = .seq 2 (l.map plD) ∧ s.fr 9 = i64 l.length ∧ s.fr 10 = i64 i ∧ s.fr 3 = i64 ((l.length + sm (fun p : PlS => p.pr.length) (l.take i) : Nat) : Int) ∧ H.le s.H) ⟨rfl, rfl, rfl, rfl, rfl, Heap.le_refl _⟩ ?_
  rintro i s hi ⟨hdf, f8, f9, f10, f3, hle⟩
  have hx : (i : Int).toNat = i := Int.toNat_natCast _
  have h00 : (0 : Int) ≤ (i : Int) := Int.natCast_nonneg _
  by_cases hil : i < l.length
  case neg =>
    have p1 : ((i : Int) < (l.length : Int)) = False := eq_false (by omega)
    have e : l.length + sm (fun p : PlS => p.pr.length) (l.take i) = nPl l := by
      rw [List.take_of_length_le (by omega)]; unfold nPl; rw [sm_add, sm_len]
    rw [e] at f3
    (have fs := And.intro f3 (And.intro f8 (And.intro f9 (And.intro f10 (And.intro @i64.eq_1 p1)))); (repeat (first | refine hGx _ ?_ | refine hNx _ ?_ | refine W_skip ?_ | refine W_exit ?_ | refine W_ret ?_ | refine W_label ?_ | refine W_scope ?_ | refine W_block ?_ | refine W_seq ?_ | ((first | refine tS fun N hNx => ?_ | refine WL_gE rfl rfl (by kernel_rfl) (by kernel_rfl) fun G hGx => ?_ | refine vcOpsS_sound (by kernel_rfl) ?_ | refine W_ifE fun A B hAx hBx => ?_); refine evT ?_; (first | refine hGx _ ?_ | refine hNx _ ?_ | refine hAx ?_ | refine hBx ?_ | skip)))); (try clear fs))
    (first | (show Q .ret _) | (show Q .normal _) | skip); refine hret _ _ (by first | exact .inr rfl | exact .inl rfl) (by first | rfl | assumption | (simp only [put_df, withH_df]; assumption)) ?_; have fs := hdf; refine evT ?_; clear fs
    exact ⟨_, Heap.le_refl _, hle, _, frz_refl hle, rfl⟩
  have p1 : ((i : Int) < (l.length : Int)) = True := eq_true (by omega)
  have hgi := map_get (f := plD) hil
  have htk : sm (fun p : PlS => p.pr.length) (l.take (i + 1)) = sm (fun p : PlS => p.pr.length) (l.take i) + l[i].pr.length := sm_take hil
  have hsu := hsum (i + 1) (by omega)
  obtain ⟨x, hxe⟩ : ∃ x, x = l[i] := ⟨_, rfl⟩
  rw [← hxe] at hgi htk
  simp only [plD] at hgi
  have hlx : (List.map pD x.pr).length = x.pr.length := List.length_map _
  have w3 : IntKind.i64.wrap ((i : Int) + 1) = ((i + 1 : Nat) : Int) := by rw [wrap_i64_of (by omega)]; omega
  have w4 : IntKind.i64.wrap (((l.length + sm (fun p : PlS => p.pr.length) (l.take i) : Nat) : Int) + (x.pr.length : Int)) = ((l.length + sm (fun p : PlS => p.pr.length) (l.take (i + 1)) : Nat) : Int) := by rw [wrap_i64_of (by omega)]; omega
  (have fs := And.intro f3 (And.intro f8 (And.intro f9 (And.intro f10 (And.intro @i64.eq_1 (And.intro p1 (And.intro hgi (And.intro hx (And.intro h00 (And.intro hil hll))))))))); (repeat (first | refine hGx _ ?_ | refine hNx _ ?_ | refine W_skip ?_ | refine W_exit ?_ | refine W_ret ?_ | refine W_label ?_ | refine W_scope ?_ | refine W_block ?_ | refine W_seq ?_ | ((first | refine tS fun N hNx => ?_ | refine WL_gE rfl rfl (by kernel_rfl) (by kernel_rfl) fun G hGx => ?_ | refine vcOpsS_sound (by kernel_rfl) ?_ | refine W_ifE fun A B hAx hBx => ?_); refine evT ?_; (first | refine hGx _ ?_ | refine hNx _ ?_ | refine hAx ?_ | refine hBx ?_ | skip)))); (try clear fs))
  intro c5 hc5
  refine hNx _ ?_
  refine W_frzp 5 rfl (Heap.upd_same _ _ _) rfl ?_; simp only [St.frzp, put_H, wdf_H, withH_H, withH_put, wdf_withH, withH_withH, init_H, init_withH, Heap.del_upd_same, Heap.del_none hc5, withH_self]
  (have fs := And.intro f3 (And.intro f10 (And.intro @i64.eq_1 (And.intro hlx (And.intro w3 w4)))); (repeat (first | refine hGx _ ?_ | refine hNx _ ?_ | refine W_skip ?_ | refine W_exit ?_ | refine W_ret ?_ | refine W_label ?_ | refine W_scope ?_ | refine W_block ?_ | refine W_seq ?_ | ((first | refine tS fun N hNx => ?_ | refine WL_gE rfl rfl (by kernel_rfl) (by kernel_rfl) fun G hGx => ?_ | refine vcOpsS_sound (by kernel_rfl) ?_ | refine W_ifE fun A B hAx hBx => ?_); refine evT ?_; (first | refine hGx _ ?_ | refine hNx _ ?_ | refine hAx ?_ | refine hBx ?_ | skip)))); (try clear fs))
  exact ⟨hil, hdf, f8, f9, rfl, rfl, hle⟩
/-- What stands before the blocks. -/
def n0 (b : BdS) : Nat := 1 + b.rg.length + b.ol.length + b.lc.length + b.ty.length + b.bl.length
def n1 (b : BdS) (i : Nat) : Nat := n0 b + sm (fun t : TyS => t.ar.length) (b.ty.take i)
def n2 (b : BdS) (i : Nat) : Nat := n1 b b.ty.length + sm nBk (b.bl.take i)
def n3 (b : BdS) (i j : Nat) (st : List StS) : Nat := n2 b i + sm (fun s : StS => 4 + s.pl.pr.length + s.rv.pl.pr.length) (st.take j)
def n3r (b : BdS) (i j : Nat) (st : List StS) : Nat := n2 b i + sm nSt (st.take j)
theorem n2_fin (b : BdS) : n2 b b.bl.length = nodesT b := by unfold n2 n1 n0 nodesT; rw [List.take_length, List.take_length]
theorem n2_le (b : BdS) (i : Nat) : n2 b i ≤ nodesT b := by
  have := sm_le nBk b.bl i
  unfold n2 n1 n0 nodesT; rw [List.take_length]; omega
theorem n1_le (b : BdS) (i : Nat) : n1 b i ≤ nodesT b := by
  have := sm_le (fun t : TyS => t.ar.length) b.ty i
  unfold n1 n0 nodesT; omega
theorem n1_succ {b : BdS} {i : Nat} (h : i < b.ty.length) : n1 b (i + 1) = n1 b i + b.ty[i].ar.length := by
  have := sm_take (f := fun t : TyS => t.ar.length) h
  unfold n1; omega
theorem n2_succ {b : BdS} {i : Nat} (h : i < b.bl.length) : n2 b (i + 1) = n2 b i + nBk b.bl[i] := by
  have := sm_take (f := nBk) h
  unfold n2; omega
theorem nst_split (st : List StS) : sm nSt st = sm (fun s : StS => 4 + s.pl.pr.length + s.rv.pl.pr.length) st + sm (fun s : StS => nOps s.rv.ar) st := by
  rw [← sm_add]; rfl
set_option maxHeartbeats 2000000 in
theorem nodes_N (b : BdS) (H : Heap) (hs : smB b) : Does Try.prog 24 [.agg (bdD b)] H fun d H' => d = i64 (nodesT b) ∧ H = H' := by
  refine Does.frz (K := fun d => d = i64 (nodesT b)) ?_
  obtain ⟨⟨hrg, hlc, hbl⟩, hol, hty, hbx, hN⟩ := hs
  have lrg : (List.map sD b.rg).length = b.rg.length := List.length_map _
  have lol : (List.map pD b.ol).length = b.ol.length := List.length_map _
  have llc : (List.map lcD b.lc).length = b.lc.length := List.length_map _
  have lty : (List.map tyD b.ty).length = b.ty.length := List.length_map _
  have lbl : (List.map bkD b.bl).length = b.bl.length := List.length_map _
  have h0N : n0 b ≤ nodesT b := by unfold n0 nodesT; omega
  have e0 : n0 b = 1 + b.rg.length + b.ol.length + b.lc.length + b.ty.length + b.bl.length := rfl
  have s0 : IntKind.i64.wrap ((1 : Int) + (b.rg.length : Int)) = ((1 + b.rg.length : Nat) : Int) := by rw [wrap_i64_of (by omega)]; omega
  have s1 : IntKind.i64.wrap (((1 + b.rg.length : Nat) : Int) + (b.ol.length : Int)) = ((1 + b.rg.length + b.ol.length : Nat) : Int) := by rw [wrap_i64_of (by omega)]; omega
  have s2 : IntKind.i64.wrap (((1 + b.rg.length + b.ol.length : Nat) : Int) + (b.lc.length : Int)) = ((1 + b.rg.length + b.ol.length + b.lc.length : Nat) : Int) := by rw [wrap_i64_of (by omega)]; omega
  have s3 : IntKind.i64.wrap (((1 + b.rg.length + b.ol.length + b.lc.length : Nat) : Int) + (b.ty.length : Int)) = ((1 + b.rg.length + b.ol.length + b.lc.length + b.ty.length : Nat) : Int) := by rw [wrap_i64_of (by omega)]; omega
  have s4 : IntKind.i64.wrap (((1 + b.rg.length + b.ol.length + b.lc.length + b.ty.length : Nat) : Int) + (b.bl.length : Int)) = ((1 + b.rg.length + b.ol.length + b.lc.length + b.ty.length + b.bl.length : Nat) : Int) := by rw [wrap_i64_of (by omega)]; omega
  rw [← e0] at s4
  refine does_of _ _ Try.func24 rfl rfl Try.ntmps24 Try.results24 (by simp only [List.length_cons, List.length_nil]; omega) fun w0 Q hret => ?_
  (have fs := And.intro @i64.eq_1 @bdD.eq_1; (repeat (first | refine hGx _ ?_ | refine hNx _ ?_ | refine W_skip ?_ | refine W_exit ?_ | refine W_ret ?_ | refine W_label ?_ | refine W_scope ?_ | refine W_block ?_ | refine W_seq ?_ | ((first | refine tS fun N hNx => ?_ | refine WL_gE rfl rfl (by kernel_rfl) (by kernel_rfl) fun G hGx => ?_ | refine vcOpsS_sound (by kernel_rfl) ?_ | refine W_ifE fun A B hAx hBx => ?_); refine evT ?_; (first | refine hGx _ ?_ | refine hNx _ ?_ | refine hAx ?_ | refine hBx ?_ | skip)))); (try clear fs))
  intro c1 hc1
  refine hNx _ ?_
  refine W_frzp 1 rfl (Heap.upd_same _ _ _) rfl ?_; simp only [St.frzp, put_H, wdf_H, withH_H, withH_put, wdf_withH, withH_withH, init_H, init_withH, Heap.del_upd_same, Heap.del_none hc1, withH_self]
  (have fs := And.intro @i64.eq_1 (And.intro lrg (And.intro lol (And.intro llc (And.intro lty (And.intro lbl (And.intro s0 (And.intro s1 (And.intro s2 (And.intro s3 s4))))))))); (repeat (first | refine hGx _ ?_ | refine hNx _ ?_ | refine W_skip ?_ | refine W_exit ?_ | refine W_ret ?_ | refine W_label ?_ | refine W_scope ?_ | refine W_block ?_ | refine W_seq ?_ | ((first | refine tS fun N hNx => ?_ | refine WL_gE rfl rfl (by kernel_rfl) (by kernel_rfl) fun G hGx => ?_ | refine vcOpsS_sound (by kernel_rfl) ?_ | refine W_ifE fun A B hAx hBx => ?_); refine evT ?_; (first | refine hGx _ ?_ | refine hNx _ ?_ | refine hAx ?_ | refine hBx ?_ | skip)))); (try clear fs))
  refine W_loopN b.ty.length (fun i s => s.df = [] ∧ s.fr 1 = .rp (bdD b) ∧ s.fr 33 = .seq 5 (b.ty.map tyD) ∧ s.fr 34 = i64 b.ty.length ∧ s.fr 35 = i64 i ∧ s.fr 3 = i64 (n1 b i) ∧ H.le s.H) ⟨rfl, rfl, rfl, rfl, rfl, rfl, Heap.le_refl _⟩ ?_
  rintro i s hi ⟨hdf, f1, f33, f34, f35, f3, hle⟩
  have hx : (i : Int).toNat = i := Int.toNat_natCast _
  have h00 : (0 : Int) ≤ (i : Int) := Int.natCast_nonneg _
  have w3 : IntKind.i64.wrap ((i : Int) + 1) = ((i + 1 : Nat) : Int) := by rw [wrap_i64_of (by omega)]; omega
  by_cases hil : i < b.ty.length
  case pos =>
    have p1 : ((i : Int) < (b.ty.length : Int)) = True := eq_true (by omega)
    have hgi := map_get (f := tyD) hil
    have hsu := n1_succ hil
    have hsl := n1_le b (i + 1)
    obtain ⟨x, hxe⟩ : ∃ x, x = b.ty[i] := ⟨_, rfl⟩
    rw [← hxe] at hgi hsu
    simp only [tyD] at hgi
    have hlx : (List.map iD x.ar).length = x.ar.length := List.length_map _
    have w4 : IntKind.i64.wrap ((n1 b i : Int) + (x.ar.length : Int)) = ((n1 b (i + 1) : Nat) : Int) := by rw [wrap_i64_of (by omega)]; omega
    (have fs := And.intro f3 (And.intro f33 (And.intro f34 (And.intro f35 (And.intro @i64.eq_1 (And.intro p1 (And.intro hgi (And.intro hx (And.intro h00 (And.intro hil lty))))))))); (repeat (first | refine hGx _ ?_ | refine hNx _ ?_ | refine W_skip ?_ | refine W_exit ?_ | refine W_ret ?_ | refine W_label ?_ | refine W_scope ?_ | refine W_block ?_ | refine W_seq ?_ | ((first | refine tS fun N hNx => ?_ | refine WL_gE rfl rfl (by kernel_rfl) (by kernel_rfl) fun G hGx => ?_ | refine vcOpsS_sound (by kernel_rfl) ?_ | refine W_ifE fun A B hAx hBx => ?_); refine evT ?_; (first | refine hGx _ ?_ | refine hNx _ ?_ | refine hAx ?_ | refine hBx ?_ | skip)))); (try clear fs))
    intro c5 hc5
    refine hNx _ ?_
    refine W_frzp 5 rfl (Heap.upd_same _ _ _) rfl ?_; simp only [St.frzp, put_H, wdf_H, withH_H, withH_put, wdf_withH, withH_withH, init_H, init_withH, Heap.del_upd_same, Heap.del_none hc5, withH_self]
    (have fs := And.intro f3 (And.intro f35 (And.intro @i64.eq_1 (And.intro hlx (And.intro w3 w4)))); (repeat (first | refine hGx _ ?_ | refine hNx _ ?_ | refine W_skip ?_ | refine W_exit ?_ | refine W_ret ?_ | refine W_label ?_ | refine W_scope ?_ | refine W_block ?_ | refine W_seq ?_ | ((first | refine tS fun N hNx => ?_ | refine WL_gE rfl rfl (by kernel_rfl) (by kernel_rfl) fun G hGx => ?_ | refine vcOpsS_sound (by kernel_rfl) ?_ | refine W_ifE fun A B hAx hBx => ?_); refine evT ?_; (first | refine hGx _ ?_ | refine hNx _ ?_ | refine hAx ?_ | refine hBx ?_ | skip)))); (try clear fs))
    exact ⟨hil, hdf, f1, f33, f34, rfl, rfl, hle⟩
  have p1 : ((i : Int) < (b.ty.length : Int)) = False := eq_false (by omega)
  have ei : i = b.ty.length := by omega
  subst ei
  simp only [bdD] at f1
  (have fs := And.intro f1 (And.intro f33 (And.intro f34 (And.intro f35 (And.intro @i64.eq_1 (And.intro p1 lbl))))); (repeat (first | refine hGx _ ?_ | refine hNx _ ?_ | refine W_skip ?_ | refine W_exit ?_ | refine W_ret ?_ | refine W_label ?_ | refine W_scope ?_ | refine W_block ?_ | refine W_seq ?_ | ((first | refine tS fun N hNx => ?_ | refine WL_gE rfl rfl (by kernel_rfl) (by kernel_rfl) fun G hGx => ?_ | refine vcOpsS_sound (by kernel_rfl) ?_ | refine W_ifE fun A B hAx hBx => ?_); refine evT ?_; (first | refine hGx _ ?_ | refine hNx _ ?_ | refine hAx ?_ | refine hBx ?_ | skip)))); (try clear fs))
  clear hx h00 w3
  refine W_loopN b.bl.length (fun i s => s.df = [] ∧ s.fr 46 = .seq 7 (b.bl.map bkD) ∧ s.fr 47 = i64 b.bl.length ∧ s.fr 48 = i64 i ∧ s.fr 3 = i64 (n2 b i) ∧ H.le s.H) ⟨hdf, rfl, rfl, rfl, f3, hle⟩ ?_
  clear hle f3 f35 f33 f34 f1 hdf p1 hil
  rintro i s hib ⟨hdf, f46, f47, f48, f3, hle⟩
  have hx : (i : Int).toNat = i := Int.toNat_natCast _
  have h00 : (0 : Int) ≤ (i : Int) := Int.natCast_nonneg _
  have w3 : IntKind.i64.wrap ((i : Int) + 1) = ((i + 1 : Nat) : Int) := by rw [wrap_i64_of (by omega)]; omega
  by_cases hil : i < b.bl.length
  case neg =>
    have p1 : ((i : Int) < (b.bl.length : Int)) = False := eq_false (by omega)
    have e : i = b.bl.length := by omega
    subst e
    rw [n2_fin] at f3
    (have fs := And.intro f3 (And.intro f46 (And.intro f47 (And.intro f48 (And.intro @i64.eq_1 p1)))); (repeat (first | refine hGx _ ?_ | refine hNx _ ?_ | refine W_skip ?_ | refine W_exit ?_ | refine W_ret ?_ | refine W_label ?_ | refine W_scope ?_ | refine W_block ?_ | refine W_seq ?_ | ((first | refine tS fun N hNx => ?_ | refine WL_gE rfl rfl (by kernel_rfl) (by kernel_rfl) fun G hGx => ?_ | refine vcOpsS_sound (by kernel_rfl) ?_ | refine W_ifE fun A B hAx hBx => ?_); refine evT ?_; (first | refine hGx _ ?_ | refine hNx _ ?_ | refine hAx ?_ | refine hBx ?_ | skip)))); (try clear fs))
    (first | (show Q .ret _) | (show Q .normal _) | skip); refine hret _ _ (by first | exact .inr rfl | exact .inl rfl) (by first | rfl | assumption | (simp only [put_df, withH_df]; assumption)) ?_; have fs := hdf; refine evT ?_; clear fs
    exact ⟨_, Heap.le_refl _, hle, _, frz_refl hle, rfl⟩
  have p1 : ((i : Int) < (b.bl.length : Int)) = True := eq_true (by omega)
  have hgi := map_get (f := bkD) hil
  have hsu := n2_succ hil
  have hsl := n2_le b (i + 1)
  have hsx := hbx b.bl[i] (List.getElem_mem hil)
  obtain ⟨x, hxe⟩ : ∃ x, x = b.bl[i] := ⟨_, rfl⟩
  rw [← hxe] at hgi hsu hsx
  have hgi' := hgi
  simp only [bkD] at hgi
  have hst : (List.map stD x.st).length = x.st.length := List.length_map _
  (have fs := And.intro f3 (And.intro f46 (And.intro f47 (And.intro f48 (And.intro @i64.eq_1 (And.intro p1 (And.intro hgi (And.intro hx (And.intro h00 (And.intro hil lbl))))))))); (repeat (first | refine hGx _ ?_ | refine hNx _ ?_ | refine W_skip ?_ | refine W_exit ?_ | refine W_ret ?_ | refine W_label ?_ | refine W_scope ?_ | refine W_block ?_ | refine W_seq ?_ | ((first | refine tS fun N hNx => ?_ | refine WL_gE rfl rfl (by kernel_rfl) (by kernel_rfl) fun G hGx => ?_ | refine vcOpsS_sound (by kernel_rfl) ?_ | refine W_ifE fun A B hAx hBx => ?_); refine evT ?_; (first | refine hGx _ ?_ | refine hNx _ ?_ | refine hAx ?_ | refine hBx ?_ | skip)))); (try clear fs))
  intro c7 hc7
  refine hNx _ ?_
  refine W_frzp 7 rfl (Heap.upd_same _ _ _) rfl ?_; simp only [St.frzp, put_H, wdf_H, withH_H, withH_put, wdf_withH, withH_withH, init_H, init_withH, Heap.del_upd_same, Heap.del_none hc7, withH_self]
  (have fs := And.intro @i64.eq_1 hst; (repeat (first | refine hGx _ ?_ | refine hNx _ ?_ | refine W_skip ?_ | refine W_exit ?_ | refine W_ret ?_ | refine W_label ?_ | refine W_scope ?_ | refine W_block ?_ | refine W_seq ?_ | ((first | refine tS fun N hNx => ?_ | refine WL_gE rfl rfl (by kernel_rfl) (by kernel_rfl) fun G hGx => ?_ | refine vcOpsS_sound (by kernel_rfl) ?_ | refine W_ifE fun A B hAx hBx => ?_); refine evT ?_; (first | refine hGx _ ?_ | refine hNx _ ?_ | refine hAx ?_ | refine hBx ?_ | skip)))); (try clear fs))
  have hnb : nBk x = sm nSt x.st + nTm x.tm := rfl
  have hsp := nst_split x.st
  refine W_loopN x.st.length (fun j s => s.df = [] ∧ s.fr 46 = .seq 7 (b.bl.map bkD) ∧ s.fr 47 = i64 b.bl.length ∧ s.fr 48 = i64 i ∧ s.fr 7 = .rp (bkD x) ∧ s.fr 53 = .seq 11 (x.st.map stD) ∧ s.fr 54 = i64 x.st.length ∧ s.fr 55 = i64 j ∧ s.fr 3 = i64 (n3 b i j x.st) ∧ H.le s.H) ⟨hdf, f46, f47, f48, rfl, rfl, rfl, rfl, f3, hle⟩ ?_
  clear f46 f47 f48 f3 hle hdf
  rintro j s hj ⟨hdf, f46, f47, f48, f7, f53, f54, f55, f3, hle⟩
  have hx2 : (j : Int).toNat = j := Int.toNat_natCast _
  have h002 : (0 : Int) ≤ (j : Int) := Int.natCast_nonneg _
  have v3 : IntKind.i64.wrap ((j : Int) + 1) = ((j + 1 : Nat) : Int) := by rw [wrap_i64_of (by have := hsx.1; omega)]; omega
  by_cases hjl : j < x.st.length
  case pos =>
    have p2 : ((j : Int) < (x.st.length : Int)) = True := eq_true (by omega)
    have hgj := map_get (f := stD) hjl
    have hsj : n3 b i (j + 1) x.st = n3 b i j x.st + (4 + x.st[j].pl.pr.length + x.st[j].rv.pl.pr.length) := by
      have := sm_take (f := fun s : StS => 4 + s.pl.pr.length + s.rv.pl.pr.length) hjl
      unfold n3; omega
    have hsjl : n3 b i (j + 1) x.st ≤ nodesT b := by
      have := sm_le (fun s : StS => 4 + s.pl.pr.length + s.rv.pl.pr.length) x.st (j + 1)
      unfold n3; omega
    obtain ⟨y, hye⟩ : ∃ y, y = x.st[j] := ⟨_, rfl⟩
    rw [← hye] at hgj hsj
    simp only [stD] at hgj
    have e2 := pn_two y.pl y.rv.pl
    have v4 : IntKind.i64.wrap (2 + (nPl [y.pl, y.rv.pl] : Int)) = ((2 + nPl [y.pl, y.rv.pl] : Nat) : Int) := by rw [wrap_i64_of (by omega)]; omega
    have v5 : IntKind.i64.wrap ((n3 b i j x.st : Int) + ((2 + nPl [y.pl, y.rv.pl] : Nat) : Int)) = ((n3 b i (j + 1) x.st : Nat) : Int) := by rw [wrap_i64_of (by omega)]; omega
    (have fs := And.intro f3 (And.intro f53 (And.intro f54 (And.intro f55 (And.intro @i64.eq_1 (And.intro p2 (And.intro hgj (And.intro hx2 (And.intro h002 (And.intro hjl hst))))))))); (repeat (first | refine hGx _ ?_ | refine hNx _ ?_ | refine W_skip ?_ | refine W_exit ?_ | refine W_ret ?_ | refine W_label ?_ | refine W_scope ?_ | refine W_block ?_ | refine W_seq ?_ | ((first | refine tS fun N hNx => ?_ | refine WL_gE rfl rfl (by kernel_rfl) (by kernel_rfl) fun G hGx => ?_ | refine vcOpsS_sound (by kernel_rfl) ?_ | refine W_ifE fun A B hAx hBx => ?_); refine evT ?_; (first | refine hGx _ ?_ | refine hNx _ ?_ | refine hAx ?_ | refine hBx ?_ | skip)))); (try clear fs))
    intro c9 hc9
    refine hNx _ ?_
    refine W_frzp 9 rfl (Heap.upd_same _ _ _) rfl ?_; simp only [St.frzp, put_H, wdf_H, withH_H, withH_put, wdf_withH, withH_withH, init_H, init_withH, Heap.del_upd_same, Heap.del_none hc9, withH_self]
    (have fs := And.intro f3 @i64.eq_1; (repeat (first | refine hGx _ ?_ | refine hNx _ ?_ | refine W_skip ?_ | refine W_exit ?_ | refine W_ret ?_ | refine W_label ?_ | refine W_scope ?_ | refine W_block ?_ | refine W_seq ?_ | ((first | refine tS fun N hNx => ?_ | refine WL_gE rfl rfl (by kernel_rfl) (by kernel_rfl) fun G hGx => ?_ | refine vcOpsS_sound (by kernel_rfl) ?_ | refine W_ifE fun A B hAx hBx => ?_); refine evT ?_; (first | refine hGx _ ?_ | refine hNx _ ?_ | refine hAx ?_ | refine hBx ?_ | skip)))); (try clear fs))
    refine (pn_N [y.pl, y.rv.pl] _ (by omega)).mono ?_
    rintro d _ ⟨rfl, rfl⟩
    (have fs := And.intro f3 (And.intro f55 (And.intro @i64.eq_1 (And.intro v3 (And.intro v4 v5)))); (repeat (first | refine hGx _ ?_ | refine hNx _ ?_ | refine W_skip ?_ | refine W_exit ?_ | refine W_ret ?_ | refine W_label ?_ | refine W_scope ?_ | refine W_block ?_ | refine W_seq ?_ | ((first | refine tS fun N hNx => ?_ | refine WL_gE rfl rfl (by kernel_rfl) (by kernel_rfl) fun G hGx => ?_ | refine vcOpsS_sound (by kernel_rfl) ?_ | refine W_ifE fun A B hAx hBx => ?_); refine evT ?_; (first | refine hGx _ ?_ | refine hNx _ ?_ | refine hAx ?_ | refine hBx ?_ | skip)))); (try clear fs))
    exact ⟨hjl, hdf, f46, f47, f48, f7, f53, f54, rfl, rfl, hle⟩
  have p2 : ((j : Int) < (x.st.length : Int)) = False := eq_false (by omega)
  have ej : j = x.st.length := by omega
  subst ej
  have htg : (List.map iD x.tm.tg).length = x.tm.tg.length := List.length_map _
  have e3 : n3 b i x.st.length x.st = n2 b i + sm (fun s : StS => 4 + s.pl.pr.length + s.rv.pl.pr.length) x.st := by unfold n3; rw [List.take_length]
  have hT : nTm x.tm = 2 + x.tm.tg.length + nOps x.tm.ar + x.tm.pl.pr.length := rfl
  have eP := pn_one x.tm.pl
  have u1 : IntKind.i64.wrap (1 + (x.tm.tg.length : Int)) = ((1 + x.tm.tg.length : Nat) : Int) := by rw [wrap_i64_of (by omega)]; omega
  have u2 : IntKind.i64.wrap (((1 + x.tm.tg.length : Nat) : Int) + (nPl [x.tm.pl] : Int)) = ((1 + x.tm.tg.length + nPl [x.tm.pl] : Nat) : Int) := by rw [wrap_i64_of (by omega)]; omega
  have u3 : IntKind.i64.wrap ((n3 b i x.st.length x.st : Int) + ((1 + x.tm.tg.length + nPl [x.tm.pl] : Nat) : Int)) = ((n3 b i x.st.length x.st + (1 + x.tm.tg.length + nPl [x.tm.pl]) : Nat) : Int) := by rw [wrap_i64_of (by omega)]; omega
  simp only [bkD] at f7
  (have fs := And.intro f3 (And.intro f7 (And.intro f53 (And.intro f54 (And.intro f55 (And.intro @i64.eq_1 p2))))); (repeat (first | refine hGx _ ?_ | refine hNx _ ?_ | refine W_skip ?_ | refine W_exit ?_ | refine W_ret ?_ | refine W_label ?_ | refine W_scope ?_ | refine W_block ?_ | refine W_seq ?_ | ((first | refine tS fun N hNx => ?_ | refine WL_gE rfl rfl (by kernel_rfl) (by kernel_rfl) fun G hGx => ?_ | refine vcOpsS_sound (by kernel_rfl) ?_ | refine W_ifE fun A B hAx hBx => ?_); refine evT ?_; (first | refine hGx _ ?_ | refine hNx _ ?_ | refine hAx ?_ | refine hBx ?_ | skip)))); (try clear fs))
  refine W_drawE (fun t _ d A => A = .none ∧ d = (if t = some 80 then i64 (nPl [x.tm.pl]) else d)) (by kernel_rfl) (by kernel_rfl) (by kernel_rfl) fun N hNx => ?_; (have fs := And.intro f3 (And.intro f7 (And.intro @i64.eq_1 (And.intro htg (And.intro u1 (And.intro u2 u3))))); (repeat ((first | refine vcD_g rfl rfl fun G hGx => ?_ | refine vcDS_to ?_); refine evD ?_; (first | refine hGx _ ?_ | refine hNx _ ?_ | skip))); (try clear fs))
  refine ⟨callOK_eq fun H'' hle'' => (pn_N [x.tm.pl] _ (by omega)).mono fun d H' h => h, ?_⟩
  (first | refine hGx _ ?_ | refine hNx _ ?_ | skip)
  have eQ := opsL_n x
  have eT : n3 b i x.st.length x.st + (1 + x.tm.tg.length + nPl [x.tm.pl]) + nOps (opsL x) = n2 b (i + 1) := by omega
  have hol2 := opsP_small hsx x.st.length
  have hoL := nOps_len (opsL x)
  have hlo : (List.map opD (opsL x)).length = (opsL x).length := List.length_map _
  (have fs := And.intro f7 @i64.eq_1; (repeat (first | refine hGx _ ?_ | refine hNx _ ?_ | refine W_skip ?_ | refine W_exit ?_ | refine W_ret ?_ | refine W_label ?_ | refine W_scope ?_ | refine W_block ?_ | refine W_seq ?_ | ((first | refine tS fun N hNx => ?_ | refine WL_gE rfl rfl (by kernel_rfl) (by kernel_rfl) fun G hGx => ?_ | refine vcOpsS_sound (by kernel_rfl) ?_ | refine W_ifE fun A B hAx hBx => ?_); refine evT ?_; (first | refine hGx _ ?_ | refine hNx _ ?_ | refine hAx ?_ | refine hBx ?_ | skip)))); (try clear fs))
  refine (bopsL_N x _ hsx).mono ?_
  rintro d _ ⟨rfl, rfl⟩
  (have fs := And.intro @i64.eq_1 hlo; (repeat (first | refine hGx _ ?_ | refine hNx _ ?_ | refine W_skip ?_ | refine W_exit ?_ | refine W_ret ?_ | refine W_label ?_ | refine W_scope ?_ | refine W_block ?_ | refine W_seq ?_ | ((first | refine tS fun N hNx => ?_ | refine WL_gE rfl rfl (by kernel_rfl) (by kernel_rfl) fun G hGx => ?_ | refine vcOpsS_sound (by kernel_rfl) ?_ | refine W_ifE fun A B hAx hBx => ?_); refine evT ?_; (first | refine hGx _ ?_ | refine hNx _ ?_ | refine hAx ?_ | refine hBx ?_ | skip)))); (try clear fs))
  refine W_loopN (opsL x).length (fun j s => s.df = [] ∧ s.fr 46 = .seq 7 (b.bl.map bkD) ∧ s.fr 47 = i64 b.bl.length ∧ s.fr 48 = i64 i ∧ s.fr 84 = .seq 4 ((opsL x).map opD) ∧ s.fr 85 = i64 (opsL x).length ∧ s.fr 86 = i64 j ∧ s.fr 3 = i64 ((n3 b i x.st.length x.st + (1 + x.tm.tg.length + nPl [x.tm.pl]) + nOps ((opsL x).take j) : Nat) : Int) ∧ H.le s.H) ⟨hdf, f46, f47, f48, rfl, rfl, rfl, rfl, hle⟩ ?_
  clear f46 f47 f48 f3 hle hdf f53 f54 f55 f7 hx2 h002 v3 hj hjl p2
  rintro j s hj ⟨hdf, f46, f47, f48, f84, f85, f86, f3, hle⟩
  have hx2 : (j : Int).toNat = j := Int.toNat_natCast _
  have h002 : (0 : Int) ≤ (j : Int) := Int.natCast_nonneg _
  have v3 : IntKind.i64.wrap ((j : Int) + 1) = ((j + 1 : Nat) : Int) := by rw [wrap_i64_of (by omega)]; omega
  by_cases hjl : j < (opsL x).length
  case neg =>
    have p2 : ((j : Int) < ((opsL x).length : Int)) = False := eq_false (by omega)
    rw [List.take_of_length_le (by omega), eT] at f3
    (have fs := And.intro f3 (And.intro f48 (And.intro f84 (And.intro f85 (And.intro f86 (And.intro @i64.eq_1 (And.intro p2 w3)))))); (repeat (first | refine hGx _ ?_ | refine hNx _ ?_ | refine W_skip ?_ | refine W_exit ?_ | refine W_ret ?_ | refine W_label ?_ | refine W_scope ?_ | refine W_block ?_ | refine W_seq ?_ | ((first | refine tS fun N hNx => ?_ | refine WL_gE rfl rfl (by kernel_rfl) (by kernel_rfl) fun G hGx => ?_ | refine vcOpsS_sound (by kernel_rfl) ?_ | refine W_ifE fun A B hAx hBx => ?_); refine evT ?_; (first | refine hGx _ ?_ | refine hNx _ ?_ | refine hAx ?_ | refine hBx ?_ | skip)))); (try clear fs))
    exact ⟨hil, hdf, f46, f47, rfl, f3, hle⟩
  have p2 : ((j : Int) < ((opsL x).length : Int)) = True := eq_true (by omega)
  have hgj := map_get (f := opD) hjl
  have hsj : nOps ((opsL x).take (j + 1)) = nOps ((opsL x).take j) + (2 + (opsL x)[j].pl.pr.length) := sm_take (f := fun o : OpS => 2 + o.pl.pr.length) hjl
  have hsjl : nOps ((opsL x).take (j + 1)) ≤ nOps (opsL x) := sm_le _ _ _
  obtain ⟨y, hye⟩ : ∃ y, y = (opsL x)[j] := ⟨_, rfl⟩
  rw [← hye] at hgj hsj
  simp only [opD] at hgj
  have e2 := pn_one y.pl
  have v4 : IntKind.i64.wrap (1 + (nPl [y.pl] : Int)) = ((1 + nPl [y.pl] : Nat) : Int) := by rw [wrap_i64_of (by omega)]; omega
  have v5 : IntKind.i64.wrap (((n3 b i x.st.length x.st + (1 + x.tm.tg.length + nPl [x.tm.pl]) + nOps ((opsL x).take j) : Nat) : Int) + ((1 + nPl [y.pl] : Nat) : Int)) = ((n3 b i x.st.length x.st + (1 + x.tm.tg.length + nPl [x.tm.pl]) + nOps ((opsL x).take (j + 1)) : Nat) : Int) := by rw [wrap_i64_of (by omega)]; omega
  (have fs := And.intro f3 (And.intro f84 (And.intro f85 (And.intro f86 (And.intro @i64.eq_1 (And.intro p2 (And.intro hgj (And.intro hx2 (And.intro h002 (And.intro hjl hlo))))))))); (repeat (first | refine hGx _ ?_ | refine hNx _ ?_ | refine W_skip ?_ | refine W_exit ?_ | refine W_ret ?_ | refine W_label ?_ | refine W_scope ?_ | refine W_block ?_ | refine W_seq ?_ | ((first | refine tS fun N hNx => ?_ | refine WL_gE rfl rfl (by kernel_rfl) (by kernel_rfl) fun G hGx => ?_ | refine vcOpsS_sound (by kernel_rfl) ?_ | refine W_ifE fun A B hAx hBx => ?_); refine evT ?_; (first | refine hGx _ ?_ | refine hNx _ ?_ | refine hAx ?_ | refine hBx ?_ | skip)))); (try clear fs))
  intro c9 hc9
  refine hNx _ ?_
  refine W_frzp 11 rfl (Heap.upd_same _ _ _) rfl ?_; simp only [St.frzp, put_H, wdf_H, withH_H, withH_put, wdf_withH, withH_withH, init_H, init_withH, Heap.del_upd_same, Heap.del_none hc9, withH_self]
  (have fs := And.intro f3 @i64.eq_1; (repeat (first | refine hGx _ ?_ | refine hNx _ ?_ | refine W_skip ?_ | refine W_exit ?_ | refine W_ret ?_ | refine W_label ?_ | refine W_scope ?_ | refine W_block ?_ | refine W_seq ?_ | ((first | refine tS fun N hNx => ?_ | refine WL_gE rfl rfl (by kernel_rfl) (by kernel_rfl) fun G hGx => ?_ | refine vcOpsS_sound (by kernel_rfl) ?_ | refine W_ifE fun A B hAx hBx => ?_); refine evT ?_; (first | refine hGx _ ?_ | refine hNx _ ?_ | refine hAx ?_ | refine hBx ?_ | skip)))); (try clear fs))
  refine (pn_N [y.pl] _ (by omega)).mono ?_
  rintro d _ ⟨rfl, rfl⟩
  (have fs := And.intro f3 (And.intro f86 (And.intro @i64.eq_1 (And.intro v3 (And.intro v4 v5)))); (repeat (first | refine hGx _ ?_ | refine hNx _ ?_ | refine W_skip ?_ | refine W_exit ?_ | refine W_ret ?_ | refine W_label ?_ | refine W_scope ?_ | refine W_block ?_ | refine W_seq ?_ | ((first | refine tS fun N hNx => ?_ | refine WL_gE rfl rfl (by kernel_rfl) (by kernel_rfl) fun G hGx => ?_ | refine vcOpsS_sound (by kernel_rfl) ?_ | refine W_ifE fun A B hAx hBx => ?_); refine evT ?_; (first | refine hGx _ ?_ | refine hNx _ ?_ | refine hAx ?_ | refine hBx ?_ | skip)))); (try clear fs))
  exact ⟨hjl, hdf, f46, f47, f48, f84, f85, rfl, rfl, hle⟩
theorem n3r_fin (b : BdS) (i : Nat) (x : BkS) : n3r b i x.st.length x.st + nTm x.tm = n2 b i + nBk x := by unfold n3r nBk; rw [List.take_length]; omega
theorem n3r_succ {b : BdS} {i j : Nat} {st : List StS} (h : j < st.length) : n3r b i (j + 1) st = n3r b i j st + nSt st[j] := by
  have := sm_take (f := nSt) h
  unfold n3r; omega
theorem n3r_le (b : BdS) (i j : Nat) (st : List StS) : n3r b i j st ≤ n2 b i + sm nSt st := by
  have := sm_le nSt st j
  unfold n3r; omega
set_option maxHeartbeats 2000000 in
theorem knodes_N (b : BdS) (H : Heap) (hs : smB b) : Does Try.prog 25 [.agg (bdD b)] H fun d H' => d = i64 (nodesT b) ∧ H = H' := by
  refine Does.frz (K := fun d => d = i64 (nodesT b)) ?_
  obtain ⟨⟨hrg, hlc, hbl⟩, hol, hty, hbx, hN⟩ := hs
  have lrg : (List.map sD b.rg).length = b.rg.length := List.length_map _
  have lol : (List.map pD b.ol).length = b.ol.length := List.length_map _
  have llc : (List.map lcD b.lc).length = b.lc.length := List.length_map _
  have lty : (List.map tyD b.ty).length = b.ty.length := List.length_map _
  have lbl : (List.map bkD b.bl).length = b.bl.length := List.length_map _
  have h0N : n0 b ≤ nodesT b := by unfold n0 nodesT; omega
  have e0 : n0 b = 1 + b.rg.length + b.ol.length + b.lc.length + b.bl.length + b.ty.length := by unfold n0; omega
  have s0 : IntKind.i64.wrap ((1 : Int) + (b.rg.length : Int)) = ((1 + b.rg.length : Nat) : Int) := by rw [wrap_i64_of (by omega)]; omega
  have s1 : IntKind.i64.wrap (((1 + b.rg.length : Nat) : Int) + (b.ol.length : Int)) = ((1 + b.rg.length + b.ol.length : Nat) : Int) := by rw [wrap_i64_of (by omega)]; omega
  have s2 : IntKind.i64.wrap (((1 + b.rg.length + b.ol.length : Nat) : Int) + (b.lc.length : Int)) = ((1 + b.rg.length + b.ol.length + b.lc.length : Nat) : Int) := by rw [wrap_i64_of (by omega)]; omega
  have s3 : IntKind.i64.wrap (((1 + b.rg.length + b.ol.length + b.lc.length : Nat) : Int) + (b.bl.length : Int)) = ((1 + b.rg.length + b.ol.length + b.lc.length + b.bl.length : Nat) : Int) := by rw [wrap_i64_of (by omega)]; omega
  have s4 : IntKind.i64.wrap (((1 + b.rg.length + b.ol.length + b.lc.length + b.bl.length : Nat) : Int) + (b.ty.length : Int)) = ((1 + b.rg.length + b.ol.length + b.lc.length + b.bl.length + b.ty.length : Nat) : Int) := by rw [wrap_i64_of (by omega)]; omega
  rw [← e0] at s4
  refine does_of _ _ Try.func25 rfl rfl Try.ntmps25 Try.results25 (by simp only [List.length_cons, List.length_nil]; omega) fun w0 Q hret => ?_
  (have fs := And.intro @i64.eq_1 @bdD.eq_1; (repeat (first | refine hGx _ ?_ | refine hNx _ ?_ | refine W_skip ?_ | refine W_exit ?_ | refine W_ret ?_ | refine W_label ?_ | refine W_scope ?_ | refine W_block ?_ | refine W_seq ?_ | ((first | refine tS fun N hNx => ?_ | refine WL_gE rfl rfl (by kernel_rfl) (by kernel_rfl) fun G hGx => ?_ | refine vcOpsS_sound (by kernel_rfl) ?_ | refine W_ifE fun A B hAx hBx => ?_); refine evT ?_; (first | refine hGx _ ?_ | refine hNx _ ?_ | refine hAx ?_ | refine hBx ?_ | skip)))); (try clear fs))
  intro c1 hc1
  refine hNx _ ?_
  refine W_frzp 1 rfl (Heap.upd_same _ _ _) rfl ?_; simp only [St.frzp, put_H, wdf_H, withH_H, withH_put, wdf_withH, withH_withH, init_H, init_withH, Heap.del_upd_same, Heap.del_none hc1, withH_self]
  (have fs := And.intro @i64.eq_1 (And.intro lrg (And.intro lol (And.intro llc (And.intro lty (And.intro lbl (And.intro s0 (And.intro s1 (And.intro s2 (And.intro s3 s4))))))))); (repeat (first | refine hGx _ ?_ | refine hNx _ ?_ | refine W_skip ?_ | refine W_exit ?_ | refine W_ret ?_ | refine W_label ?_ | refine W_scope ?_ | refine W_block ?_ | refine W_seq ?_ | ((first | refine tS fun N hNx => ?_ | refine WL_gE rfl rfl (by kernel_rfl) (by kernel_rfl) fun G hGx => ?_ | refine vcOpsS_sound (by kernel_rfl) ?_ | refine W_ifE fun A B hAx hBx => ?_); refine evT ?_; (first | refine hGx _ ?_ | refine hNx _ ?_ | refine hAx ?_ | refine hBx ?_ | skip)))); (try clear fs))
  refine W_loopN b.ty.length (fun i s => s.df = [] ∧ s.fr 1 = .rp (bdD b) ∧ s.fr 4 = i64 i ∧ s.fr 3 = i64 (n1 b i) ∧ H.le s.H) ⟨rfl, rfl, rfl, rfl, Heap.le_refl _⟩ ?_
  rintro i s hi ⟨hdf, f1, f4, f3, hle⟩
  have hx : (i : Int).toNat = i := Int.toNat_natCast _
  have h00 : (0 : Int) ≤ (i : Int) := Int.natCast_nonneg _
  have w3 : IntKind.i64.wrap ((i : Int) + 1) = ((i + 1 : Nat) : Int) := by rw [wrap_i64_of (by omega)]; omega
  have f1' := f1
  simp only [bdD] at f1
  by_cases hil : i < b.ty.length
  case pos =>
    have p1 : ((i : Int) < (b.ty.length : Int)) = True := eq_true (by omega)
    have hgi := map_get (f := tyD) hil
    have hsu := n1_succ hil
    have hsl := n1_le b (i + 1)
    obtain ⟨x, hxe⟩ : ∃ x, x = b.ty[i] := ⟨_, rfl⟩
    rw [← hxe] at hgi hsu
    simp only [tyD] at hgi
    have hlx : (List.map iD x.ar).length = x.ar.length := List.length_map _
    have w4 : IntKind.i64.wrap ((n1 b i : Int) + (x.ar.length : Int)) = ((n1 b (i + 1) : Nat) : Int) := by rw [wrap_i64_of (by omega)]; omega
    (have fs := And.intro f1 (And.intro f3 (And.intro f4 (And.intro @i64.eq_1 (And.intro p1 (And.intro hgi (And.intro hx (And.intro h00 (And.intro hil (And.intro lty (And.intro hlx (And.intro w3 w4))))))))))); (repeat (first | refine hGx _ ?_ | refine hNx _ ?_ | refine W_skip ?_ | refine W_exit ?_ | refine W_ret ?_ | refine W_label ?_ | refine W_scope ?_ | refine W_block ?_ | refine W_seq ?_ | ((first | refine tS fun N hNx => ?_ | refine WL_gE rfl rfl (by kernel_rfl) (by kernel_rfl) fun G hGx => ?_ | refine vcOpsS_sound (by kernel_rfl) ?_ | refine W_ifE fun A B hAx hBx => ?_); refine evT ?_; (first | refine hGx _ ?_ | refine hNx _ ?_ | refine hAx ?_ | refine hBx ?_ | skip)))); (try clear fs))
    exact ⟨hil, hdf, f1', rfl, rfl, hle⟩
  have p1 : ((i : Int) < (b.ty.length : Int)) = False := eq_false (by omega)
  have ei : i = b.ty.length := by omega
  subst ei
  (have fs := And.intro f1 (And.intro f3 (And.intro f4 (And.intro @i64.eq_1 (And.intro p1 lty)))); (repeat (first | refine hGx _ ?_ | refine hNx _ ?_ | refine W_skip ?_ | refine W_exit ?_ | refine W_ret ?_ | refine W_label ?_ | refine W_scope ?_ | refine W_block ?_ | refine W_seq ?_ | ((first | refine tS fun N hNx => ?_ | refine WL_gE rfl rfl (by kernel_rfl) (by kernel_rfl) fun G hGx => ?_ | refine vcOpsS_sound (by kernel_rfl) ?_ | refine W_ifE fun A B hAx hBx => ?_); refine evT ?_; (first | refine hGx _ ?_ | refine hNx _ ?_ | refine hAx ?_ | refine hBx ?_ | skip)))); (try clear fs))
  clear hx h00 w3
  refine W_loopN b.bl.length (fun i s => s.df = [] ∧ s.fr 1 = .rp (bdD b) ∧ s.fr 5 = i64 i ∧ s.fr 3 = i64 (n2 b i) ∧ H.le s.H) ⟨hdf, f1', rfl, f3, hle⟩ ?_
  clear hle f3 f4 f1 f1' hdf p1 hil
  rintro i s hib ⟨hdf, f1, f5, f3, hle⟩
  have hx : (i : Int).toNat = i := Int.toNat_natCast _
  have h00 : (0 : Int) ≤ (i : Int) := Int.natCast_nonneg _
  have w3 : IntKind.i64.wrap ((i : Int) + 1) = ((i + 1 : Nat) : Int) := by rw [wrap_i64_of (by omega)]; omega
  have f1' := f1
  simp only [bdD] at f1
  by_cases hil : i < b.bl.length
  case neg =>
    have p1 : ((i : Int) < (b.bl.length : Int)) = False := eq_false (by omega)
    have e : i = b.bl.length := by omega
    subst e
    rw [n2_fin] at f3
    (have fs := And.intro f1 (And.intro f3 (And.intro f5 (And.intro @i64.eq_1 (And.intro p1 lbl)))); (repeat (first | refine hGx _ ?_ | refine hNx _ ?_ | refine W_skip ?_ | refine W_exit ?_ | refine W_ret ?_ | refine W_label ?_ | refine W_scope ?_ | refine W_block ?_ | refine W_seq ?_ | ((first | refine tS fun N hNx => ?_ | refine WL_gE rfl rfl (by kernel_rfl) (by kernel_rfl) fun G hGx => ?_ | refine vcOpsS_sound (by kernel_rfl) ?_ | refine W_ifE fun A B hAx hBx => ?_); refine evT ?_; (first | refine hGx _ ?_ | refine hNx _ ?_ | refine hAx ?_ | refine hBx ?_ | skip)))); (try clear fs))
    (first | (show Q .ret _) | (show Q .normal _) | skip); refine hret _ _ (by first | exact .inr rfl | exact .inl rfl) (by first | rfl | assumption | (simp only [put_df, withH_df]; assumption)) ?_; have fs := hdf; refine evT ?_; clear fs
    exact ⟨_, Heap.le_refl _, hle, _, frz_refl hle, rfl⟩
  have p1 : ((i : Int) < (b.bl.length : Int)) = True := eq_true (by omega)
  have hgi := map_get (f := bkD) hil
  have hsu := n2_succ hil
  have hsl := n2_le b (i + 1)
  have hsx := hbx b.bl[i] (List.getElem_mem hil)
  obtain ⟨x, hxe⟩ : ∃ x, x = b.bl[i] := ⟨_, rfl⟩
  rw [← hxe] at hgi hsu hsx
  simp only [bkD] at hgi
  have hst : (List.map stD x.st).length = x.st.length := List.length_map _
  (have fs := And.intro f1 (And.intro f3 (And.intro f5 (And.intro @i64.eq_1 (And.intro p1 (And.intro hgi (And.intro hx (And.intro h00 (And.intro hil lbl)))))))); (repeat (first | refine hGx _ ?_ | refine hNx _ ?_ | refine W_skip ?_ | refine W_exit ?_ | refine W_ret ?_ | refine W_label ?_ | refine W_scope ?_ | refine W_block ?_ | refine W_seq ?_ | ((first | refine tS fun N hNx => ?_ | refine WL_gE rfl rfl (by kernel_rfl) (by kernel_rfl) fun G hGx => ?_ | refine vcOpsS_sound (by kernel_rfl) ?_ | refine W_ifE fun A B hAx hBx => ?_); refine evT ?_; (first | refine hGx _ ?_ | refine hNx _ ?_ | refine hAx ?_ | refine hBx ?_ | skip)))); (try clear fs))
  have hnb : nBk x = sm nSt x.st + nTm x.tm := rfl
  refine W_loopN x.st.length (fun j s => s.df = [] ∧ s.fr 1 = .rp (bdD b) ∧ s.fr 5 = i64 i ∧ s.fr 6 = .seq 11 (x.st.map stD) ∧ s.fr 7 = i64 j ∧ s.fr 3 = i64 (n3r b i j x.st) ∧ H.le s.H) ⟨hdf, f1', f5, rfl, rfl, f3, hle⟩ ?_
  clear f1 f1' f5 f3 hle hdf
  rintro j s hj ⟨hdf, f1, f5, f6, f7, f3, hle⟩
  have hx2 : (j : Int).toNat = j := Int.toNat_natCast _
  have h002 : (0 : Int) ≤ (j : Int) := Int.natCast_nonneg _
  have v3 : IntKind.i64.wrap ((j : Int) + 1) = ((j + 1 : Nat) : Int) := by rw [wrap_i64_of (by have := hsx.1; omega)]; omega
  by_cases hjl : j < x.st.length
  case pos =>
    have p2 : ((j : Int) < (x.st.length : Int)) = True := eq_true (by omega)
    have hgj := map_get (f := stD) hjl
    have hsj := n3r_succ (b := b) (i := i) hjl
    have hsjl := n3r_le b i (j + 1) x.st
    have hsy := hsx.2.1 x.st[j] (List.getElem_mem hjl)
    obtain ⟨y, hye⟩ : ∃ y, y = x.st[j] := ⟨_, rfl⟩
    rw [← hye] at hgj hsj hsy
    simp only [stD] at hgj
    have hn : nSt y = 4 + y.pl.pr.length + y.rv.pl.pr.length + nOps y.rv.ar := rfl
    have v4 : IntKind.i64.wrap (1 + ((1 + y.pl.pr.length : Nat) : Int)) = ((2 + y.pl.pr.length : Nat) : Int) := by rw [wrap_i64_of (by omega)]; omega
    have v5 : IntKind.i64.wrap (((2 + y.pl.pr.length : Nat) : Int) + 1) = ((3 + y.pl.pr.length : Nat) : Int) := by rw [wrap_i64_of (by omega)]; omega
    have v6 : IntKind.i64.wrap (((3 + y.pl.pr.length : Nat) : Int) + ((1 + y.rv.pl.pr.length : Nat) : Int)) = ((4 + y.pl.pr.length + y.rv.pl.pr.length : Nat) : Int) := by rw [wrap_i64_of (by omega)]; omega
    have v7 : IntKind.i64.wrap (((4 + y.pl.pr.length + y.rv.pl.pr.length : Nat) : Int) + (nOps y.rv.ar : Int)) = (nSt y : Int) := by rw [wrap_i64_of (by omega)]; omega
    have v8 : IntKind.i64.wrap ((n3r b i j x.st : Int) + (nSt y : Int)) = (n3r b i (j + 1) x.st : Int) := by rw [wrap_i64_of (by omega)]; omega
    (have fs := And.intro f3 (And.intro f6 (And.intro f7 (And.intro @i64.eq_1 (And.intro p2 hst)))); (repeat (first | refine hGx _ ?_ | refine hNx _ ?_ | refine W_skip ?_ | refine W_exit ?_ | refine W_ret ?_ | refine W_label ?_ | refine W_scope ?_ | refine W_block ?_ | refine W_seq ?_ | ((first | refine tS fun N hNx => ?_ | refine WL_gE rfl rfl (by kernel_rfl) (by kernel_rfl) fun G hGx => ?_ | refine vcOpsS_sound (by kernel_rfl) ?_ | refine W_ifE fun A B hAx hBx => ?_); refine evT ?_; (first | refine hGx _ ?_ | refine hNx _ ?_ | refine hAx ?_ | refine hBx ?_ | skip)))); (try clear fs))
    refine W_drawE (fun t _ d A => A = .none ∧ d = (if t = some 70 then i64 ((1 + y.pl.pr.length : Nat) : Int) else if t = some 79 then i64 ((1 + y.rv.pl.pr.length : Nat) : Int) else if t = some 87 then i64 (nOps y.rv.ar) else d)) (by kernel_rfl) (by kernel_rfl) (by kernel_rfl) fun N hNx => ?_; (have fs := And.intro f3 (And.intro f6 (And.intro f7 (And.intro @i64.eq_1 (And.intro hst (And.intro hgj (And.intro hx2 (And.intro h002 (And.intro hjl (And.intro v4 (And.intro v5 (And.intro v6 (And.intro v7 v8)))))))))))); (repeat ((first | refine vcD_g rfl rfl fun G hGx => ?_ | refine vcDS_to ?_); refine evD ?_; (first | refine hGx _ ?_ | refine hNx _ ?_ | skip))); (try clear fs))
    refine ⟨callOK_eq fun H'' hle'' => (kplace_N y.pl _ hsy.1).mono fun d H' h => h, callOK_eq fun H'' hle'' => (kplace_N y.rv.pl _ hsy.2.1).mono fun d H' h => h, callOK_eq fun H'' hle'' => (kopsn_N y.rv.ar _ hsy.2.2 (by omega)).mono fun d H' h => h, ?_⟩
    (first | refine hGx _ ?_ | refine hNx _ ?_ | skip)
    (have fs := And.intro f3 (And.intro f7 (And.intro @i64.eq_1 v3)); (repeat (first | refine hGx _ ?_ | refine hNx _ ?_ | refine W_skip ?_ | refine W_exit ?_ | refine W_ret ?_ | refine W_label ?_ | refine W_scope ?_ | refine W_block ?_ | refine W_seq ?_ | ((first | refine tS fun N hNx => ?_ | refine WL_gE rfl rfl (by kernel_rfl) (by kernel_rfl) fun G hGx => ?_ | refine vcOpsS_sound (by kernel_rfl) ?_ | refine W_ifE fun A B hAx hBx => ?_); refine evT ?_; (first | refine hGx _ ?_ | refine hNx _ ?_ | refine hAx ?_ | refine hBx ?_ | skip)))); (try clear fs))
    exact ⟨hjl, hdf, f1, f5, f6, rfl, rfl, hle⟩
  have p2 : ((j : Int) < (x.st.length : Int)) = False := eq_false (by omega)
  have ej : j = x.st.length := by omega
  subst ej
  have htg : (List.map iD x.tm.tg).length = x.tm.tg.length := List.length_map _
  have e3 := n3r_fin b i x
  have hT : nTm x.tm = 2 + x.tm.tg.length + nOps x.tm.ar + x.tm.pl.pr.length := rfl
  have u1 : IntKind.i64.wrap (1 + (x.tm.tg.length : Int)) = ((1 + x.tm.tg.length : Nat) : Int) := by rw [wrap_i64_of (by omega)]; omega
  have u2 : IntKind.i64.wrap (((1 + x.tm.tg.length : Nat) : Int) + (nOps x.tm.ar : Int)) = ((1 + x.tm.tg.length + nOps x.tm.ar : Nat) : Int) := by rw [wrap_i64_of (by omega)]; omega
  have u3 : IntKind.i64.wrap (((1 + x.tm.tg.length + nOps x.tm.ar : Nat) : Int) + ((1 + x.tm.pl.pr.length : Nat) : Int)) = ((nTm x.tm : Nat) : Int) := by rw [wrap_i64_of (by omega)]; omega
  have u4 : IntKind.i64.wrap ((n3r b i x.st.length x.st : Int) + (nTm x.tm : Int)) = ((n2 b (i + 1) : Nat) : Int) := by rw [wrap_i64_of (by omega)]; omega
  have f1' := f1
  simp only [bdD] at f1
  (have fs := And.intro f1 (And.intro f3 (And.intro f5 (And.intro f6 (And.intro f7 (And.intro @i64.eq_1 (And.intro p2 (And.intro hst (And.intro hgi (And.intro hx (And.intro h00 (And.intro hil lbl))))))))))); (repeat (first | refine hGx _ ?_ | refine hNx _ ?_ | refine W_skip ?_ | refine W_exit ?_ | refine W_ret ?_ | refine W_label ?_ | refine W_scope ?_ | refine W_block ?_ | refine W_seq ?_ | ((first | refine tS fun N hNx => ?_ | refine WL_gE rfl rfl (by kernel_rfl) (by kernel_rfl) fun G hGx => ?_ | refine vcOpsS_sound (by kernel_rfl) ?_ | refine W_ifE fun A B hAx hBx => ?_); refine evT ?_; (first | refine hGx _ ?_ | refine hNx _ ?_ | refine hAx ?_ | refine hBx ?_ | skip)))); (try clear fs))
  intro c8 hc8
  refine hNx _ ?_
  refine W_frzp 8 rfl (Heap.upd_same _ _ _) rfl ?_; simp only [St.frzp, put_H, wdf_H, withH_H, withH_put, wdf_withH, withH_withH, init_H, init_withH, Heap.del_upd_same, Heap.del_none hc8, withH_self]
  (have fs := And.intro f3 @i64.eq_1; (repeat (first | refine hGx _ ?_ | refine hNx _ ?_ | refine W_skip ?_ | refine W_exit ?_ | refine W_ret ?_ | refine W_label ?_ | refine W_scope ?_ | refine W_block ?_ | refine W_seq ?_ | ((first | refine tS fun N hNx => ?_ | refine WL_gE rfl rfl (by kernel_rfl) (by kernel_rfl) fun G hGx => ?_ | refine vcOpsS_sound (by kernel_rfl) ?_ | refine W_ifE fun A B hAx hBx => ?_); refine evT ?_; (first | refine hGx _ ?_ | refine hNx _ ?_ | refine hAx ?_ | refine hBx ?_ | skip)))); (try clear fs))
  refine W_drawE (fun t _ d A => A = .none ∧ d = (if t = some 103 then i64 (nOps x.tm.ar) else if t = some 107 then i64 ((1 + x.tm.pl.pr.length : Nat) : Int) else d)) (by kernel_rfl) (by kernel_rfl) (by kernel_rfl) fun N hNx => ?_; (have fs := And.intro f3 (And.intro @i64.eq_1 (And.intro htg (And.intro u1 (And.intro u2 (And.intro u3 u4))))); (repeat ((first | refine vcD_g rfl rfl fun G hGx => ?_ | refine vcDS_to ?_); refine evD ?_; (first | refine hGx _ ?_ | refine hNx _ ?_ | skip))); (try clear fs))
  refine ⟨callOK_eq fun H'' hle'' => (kopsn_N x.tm.ar _ hsx.2.2.2.1 (by omega)).mono fun d H' h => h, callOK_eq fun H'' hle'' => (kplace_N x.tm.pl _ hsx.2.2.2.2.1).mono fun d H' h => h, ?_⟩
  (first | refine hGx _ ?_ | refine hNx _ ?_ | skip)
  (have fs := And.intro f5 (And.intro @i64.eq_1 w3); (repeat (first | refine hGx _ ?_ | refine hNx _ ?_ | refine W_skip ?_ | refine W_exit ?_ | refine W_ret ?_ | refine W_label ?_ | refine W_scope ?_ | refine W_block ?_ | refine W_seq ?_ | ((first | refine tS fun N hNx => ?_ | refine WL_gE rfl rfl (by kernel_rfl) (by kernel_rfl) fun G hGx => ?_ | refine vcOpsS_sound (by kernel_rfl) ?_ | refine W_ifE fun A B hAx hBx => ?_); refine evT ?_; (first | refine hGx _ ?_ | refine hNx _ ?_ | refine hAx ?_ | refine hBx ?_ | skip)))); (try clear fs))
  exact ⟨hil, hdf, f1', rfl, rfl, hle⟩
/-- A slice that is nil or a whole row of one's own, and what its elements read as. -/
def oR (A : Heap) (T : TypeId) (sz : Nat) (d : D) (es : List (List D)) : Prop := (d = .val (.slice none 0 0) ∧ es = []) ∨ ∃ c o els, d = .os c o sz 0 els.length ∧ els.length = es.length ∧ A c = some (.row T o sz els) ∧ RdR (A.del c) els es
theorem del_mono {A B : Heap} (h : A.le B) (c : Nat) : (A.del c).le (B.del c) := fun b x hb => by
  by_cases e : b = c
  · rw [e, Heap.del_same] at hb; cases hb
  · rw [Heap.del_ne e] at hb ⊢; exact h b x hb
theorem RdL.mono {A B : Heap} (h : A.le B) : ∀ {ds es : List D}, RdL A ds es → RdL B ds es
  | [], [], _ => trivial
  | d :: ds, e :: es, k => ⟨k.1.mono h, RdL.mono h k.2⟩
  | [], _ :: _, k => k.elim
  | _ :: _, [], k => k.elim
theorem RdR.mono {A B : Heap} (h : A.le B) : ∀ {ds es : List (List D)}, RdR A ds es → RdR B ds es
  | [], [], _ => trivial
  | d :: ds, e :: es, k => ⟨RdL.mono h k.1, RdR.mono h k.2⟩
  | [], _ :: _, k => k.elim
  | _ :: _, [], k => k.elim
theorem oR.mono {A B : Heap} {T : TypeId} {sz : Nat} {d : D} {es : List (List D)} (h : A.le B) (k : oR A T sz d es) : oR B T sz d es := by
  rcases k with k | ⟨c, o, els, h1, h2, h3, h4⟩
  · exact .inl k
  · exact .inr ⟨c, o, els, h1, h2, h _ _ h3, h4.mono (del_mono h c)⟩
theorem oR.os {A : Heap} {T : TypeId} {sz : Nat} {d : D} {es : List (List D)} (k : oR A T sz d es) : oS A T sz d := by
  rcases k with ⟨rfl, _⟩ | ⟨c, o, els, h1, h2, h3, h4⟩
  · exact .inl rfl
  · exact .inr ⟨c, o, els.length, h1, .inr ⟨els, rfl, h3⟩⟩
theorem del_upd_id {A : Heap} {c : Nat} {x : HObj} (h : A c = some x) : (A.del c).upd c x = A := funext fun b => by
  by_cases e : b = c
  · rw [e, Heap.upd_same, h]
  · rw [Heap.upd_ne e, Heap.del_ne e]
theorem oR.rd {A : Heap} {T : TypeId} {sz : Nat} {d : D} {es : List (List D)} (k : oR A T sz d es) : Rd1 A d (.seq sz es) := by
  rcases k with ⟨rfl, rfl⟩ | ⟨c, o, els, rfl, h2, h3, h4⟩
  · exact Rd1.nil _ _
  · have h := Rd1.row (T := T) (o := o) (sz := sz) (Heap.del_same A c) h4 rfl
    rw [del_upd_id h3] at h
    exact h
theorem Cl.upd {H X A : Heap} {c : Nat} {v : HObj} (h : Cl H X A) (hH : H c = none) (hA : A c = none) : Cl H (X.upd c v) A := ⟨Heap.le_put h.1 hH, Heap.le_put h.2.1 hA, h.2.2.1, h.2.2.2⟩
theorem le_del {H X : Heap} {c : Nat} (h : H.le X) (hH : H c = none) : H.le (X.del c) := fun b x hb => by
  have : b ≠ c := fun e => by rw [e, hH] at hb; cases hb
  rw [Heap.del_ne this]; exact h b x hb
theorem Cl.del {H X A : Heap} {c : Nat} (h : Cl H X A) (hH : H c = none) (hA : A c = none) : Cl H (X.del c) A := ⟨le_del h.1 hH, le_del h.2.1 hA, h.2.2.1, h.2.2.2⟩
theorem Cl.le {H X Y A : Heap} (h : Cl H X A) (hl : X.le Y) : Cl H Y A := ⟨Heap.le_trans h.1 hl, Heap.le_trans h.2.1 hl, h.2.2.1, h.2.2.2⟩
theorem Cl.none (H X : Heap) (h : H.le X) : Cl H X Heap.none := ⟨h, Heap.le_none _, fun b hb => absurd rfl hb, TyH.none⟩
theorem Cl.base {H F X A : Heap} (h : Cl F X A) (hl : H.le F) : Cl H X A := ⟨Heap.le_trans hl h.1, h.2.1, fun b hb => Heap.none_of hl (h.2.2.1 b hb), h.2.2.2⟩
/-- One more part. -/
theorem Cl.more {H X Y A B : Heap} (h : Cl H X A) (h2 : Cl X Y B) : Cl H Y (A.add B) ∧ A.le (A.add B) ∧ B.le (A.add B) ∧ ∀ c x, X c = some x → A c = Option.none → (A.add B) c = Option.none := Cl.add h.1 h.2.1 h.2.2.1 h.2.2.2 h2
theorem Cl.fresh {H X A : Heap} {c : Nat} {x : HObj} (h : Cl H X A) (hc : H c = some x) : A c = Option.none := by
  cases e : A c with
  | none => rfl
  | some y => have := h.2.2.1 c (by rw [e]; simp); rw [this] at hc; cases hc
/-- A part of new blocks. -/
def Part (F X : Heap) (T : TypeId) (sz : Nat) (d : D) (es : List (List D)) : Prop := ∃ A, Cl F X A ∧ oR A T sz d es
theorem ClR.partE {T : TypeId} {sz : Nat} {els : List (List D)} {H H' : Heap} {d : D} (h : ClR T sz els H d H') (hl : els.length ≤ 1000000) (he : ∀ el ∈ els, OkEl Heap.none T el) : ∃ A, (Cl H H' A ∧ oR A T sz d els) ∧ (d = .val (.slice none 0 0) ∨ ∃ c o, d = .os c o sz 0 els.length ∧ A c = some (.row T o sz els)) := by
  rcases h with ⟨rfl, rfl, rfl⟩ | ⟨b, o, hb, rfl, rfl⟩
  · exact ⟨Heap.none, ⟨Cl.none _ _ (Heap.le_refl _), .inl ⟨rfl, rfl⟩⟩, .inl rfl⟩
  · refine ⟨Heap.none.upd b (.row T o sz els), ⟨⟨Heap.le_put (Heap.le_refl _) hb, fun c x hc => ?_, fun c hc => ?_, TyH.none.new rfl hl he⟩, .inr ⟨b, o, els, rfl, rfl, Heap.upd_same _ _ _, RdR.same _ _⟩⟩, .inr ⟨b, o, rfl, Heap.upd_same _ _ _⟩⟩
    · by_cases e : c = b
      · rw [e, Heap.upd_same] at hc ⊢; exact hc
      · rw [Heap.upd_ne e] at hc; cases hc
    · by_cases e : c = b
      · rw [e]; exact hb
      · rw [Heap.upd_ne e] at hc; exact absurd rfl hc
theorem ClR.part {T : TypeId} {sz : Nat} {els : List (List D)} {H H' : Heap} {d : D} (h : ClR T sz els H d H') (hl : els.length ≤ 1000000) (he : ∀ el ∈ els, OkEl Heap.none T el) : Part H H' T sz d els := by
  obtain ⟨A, hA, _⟩ := h.partE hl he
  exact ⟨A, hA⟩
/-- A loop over the elements of a row of one's own: the first i have been done. -/
def LpI {α : Type} (O : Heap → List D → α → Prop) (f : α → List D) (T : TypeId) (sz : Nat) (l : List α) (F : Heap) (c o i : Nat) (X : Heap) : Prop := F c = none ∧ ∃ A els, Cl F X A ∧ A c = none ∧ X c = some (.row T o sz els) ∧ els.length = l.length ∧
  ∀ (j : Nat) (h : j < l.length), ∃ el, els[j]? = some el ∧ (j < i → O A el l[j]) ∧ (i ≤ j → el = f l[j])
theorem LpI.init {α : Type} {O : Heap → List D → α → Prop} {f : α → List D} {T : TypeId} {sz : Nat} {l : List α} {X : Heap} {c o : Nat} (hc : X c = some (.row T o sz (l.map f))) : LpI O f T sz l (X.del c) c o 0 X :=
  ⟨Heap.del_same _ _, Heap.none, _, Cl.none _ _ (Heap.del_le X c), rfl, hc, List.length_map _, fun j h => ⟨f l[j], by rw [List.getElem?_map, List.getElem?_eq_getElem h]; rfl, fun h => absurd h (by omega), fun _ => rfl⟩⟩
theorem LpI.next {α : Type} {O : Heap → List D → α → Prop} {f : α → List D} {T : TypeId} {sz : Nat} {l : List α} {F A A' X' : Heap} {c o i : Nat} {els els' : List (List D)} {el' : List D} (hF : F c = none) (hj : ∀ (j : Nat) (h : j < l.length), ∃ el, els[j]? = some el ∧ (j < i → O A el l[j]) ∧ (i ≤ j → el = f l[j]))
    (hmono : ∀ el x, O A el x → O A' el x) (hX : Cl F X' A') (hA' : A' c = none) (hc : X' c = some (.row T o sz els')) (hlen : els'.length = l.length) (ho : ∀ j, j ≠ i → els'[j]? = els[j]?) (he : els'[i]? = some el') (hil : i < l.length) (hO : O A' el' l[i]) : LpI O f T sz l F c o (i + 1) X' :=
  ⟨hF, A', els', hX, hA', hc, hlen, fun j hjl => by
    by_cases e : j = i
    · subst e
      exact ⟨el', he, fun _ => hO, fun h => absurd h (by omega)⟩
    · obtain ⟨el, g1, g2, g3⟩ := hj j hjl
      exact ⟨el, by rw [ho j e]; exact g1, fun h => hmono _ _ (g2 (by omega)), fun h => g3 (by omega)⟩⟩
theorem LpI.fin {α : Type} {O : Heap → List D → α → Prop} {f : α → List D} {T : TypeId} {sz : Nat} {l : List α} {F X : Heap} {c o i : Nat} (h : LpI O f T sz l F c o i X) (hi : i = l.length) (hl : l.length ≤ 1000000) (hok : ∀ A el x, O A el x → OkEl A T el) (hrd : ∀ A el x, O A el x → RdL A el (f x)) : Part F X T sz (.os c o sz 0 l.length) (l.map f) := by
  subst hi
  obtain ⟨hF, A, els, hC, hA, hc, hel, hj⟩ := h
  have hall : ∀ el ∈ els, OkEl A T el := fun el hm => by
    obtain ⟨j, hjl, rfl⟩ := List.getElem_of_mem hm
    obtain ⟨el2, h1, h2, _⟩ := hj j (by omega)
    rw [List.getElem?_eq_getElem hjl] at h1
    injection h1 with h1
    rw [h1]
    exact hok _ _ _ (h2 (by omega))
  refine ⟨A.upd c (.row T o sz els), ⟨hC.1, fun b x hb => ?_, fun b hb => ?_, hC.2.2.2.new hA (by rw [hel]; exact hl) hall⟩, .inr ⟨c, o, els, by rw [hel], by rw [hel, List.length_map], Heap.upd_same _ _ _, ?_⟩⟩
  · by_cases e : b = c
    · subst e; rw [Heap.upd_same] at hb; rw [hc]; exact hb
    · rw [Heap.upd_ne e] at hb; exact hC.2.1 b x hb
  · by_cases e : b = c
    · rw [e]; exact hF
    · rw [Heap.upd_ne e] at hb; exact hC.2.2.1 b hb
  · rw [Heap.del_upd_same, Heap.del_none hA]
    refine RdR.idx (by simp [hel]) fun j el e h1 h2 => ?_
    have hjl : j < l.length := by rw [← hel]; exact (List.getElem?_eq_some_iff.1 h1).1
    obtain ⟨el2, g1, g2, _⟩ := hj j hjl
    rw [g1] at h1
    injection h1 with h1
    subst h1
    rw [List.getElem?_map, List.getElem?_eq_getElem hjl] at h2
    injection h2 with h2
    subst h2
    exact hrd _ _ _ (g2 (by omega))
/-- Types, statements and blocks that have been copied. -/
def tyO (A : Heap) (el : List D) (t : TyS) : Prop := ∃ f, el = [i64 t.k, .val (.bool t.m), i64 t.r, i64 t.e, f] ∧ oS A 3 1 f ∧ Rd1 A f (.seq 1 (t.ar.map iD))
theorem tyO.mono {A B : Heap} (h : A.le B) (el : List D) (t : TyS) (k : tyO A el t) : tyO B el t := by
  obtain ⟨f, h1, h2, h3⟩ := k
  exact ⟨f, h1, oS_mono h h2, h3.mono h⟩
theorem tyO.ok (A : Heap) (el : List D) (t : TyS) (k : tyO A el t) : OkEl A 51 el := by
  obtain ⟨f, rfl, h2, h3⟩ := k
  exact ok_ty h2
theorem tyO.rd (A : Heap) (el : List D) (t : TyS) (k : tyO A el t) : RdL A el (tyD t) := by
  obtain ⟨f, rfl, h2, h3⟩ := k
  exact ⟨Rd1.same _ _, Rd1.same _ _, Rd1.same _ _, Rd1.same _ _, h3, trivial⟩
def stO (A : Heap) (el : List D) (s : StS) : Prop := ∃ p q r, el = [i64 s.k, i64 s.pl.lo, p, i64 s.rv.k, i64 s.rv.op, i64 s.rv.rg, .val (.bool s.rv.mu), i64 s.rv.pl.lo, q, r, i64 s.lo] ∧ oS A 139 2 p ∧ oS A 139 2 q ∧ oS A 91 4 r ∧ Rd1 A p (.seq 2 (s.pl.pr.map pD)) ∧ Rd1 A q (.seq 2 (s.rv.pl.pr.map pD)) ∧ Rd1 A r (.seq 4 (s.rv.ar.map opD))
theorem stO.mono {A B : Heap} (h : A.le B) (el : List D) (s : StS) (k : stO A el s) : stO B el s := by
  obtain ⟨p, q, r, h1, h2, h3, h4, h5, h6, h7⟩ := k
  exact ⟨p, q, r, h1, oS_mono h h2, oS_mono h h3, oS_mono h h4, h5.mono h, h6.mono h, h7.mono h⟩
theorem stO.ok (A : Heap) (el : List D) (s : StS) (k : stO A el s) : OkEl A 75 el := by
  obtain ⟨p, q, r, rfl, h2, h3, h4, h5, h6, h7⟩ := k
  exact ok_sm h2 h3 h4
theorem stO.rd (A : Heap) (el : List D) (s : StS) (k : stO A el s) : RdL A el (stD s) := by
  obtain ⟨p, q, r, rfl, h2, h3, h4, h5, h6, h7⟩ := k
  exact ⟨Rd1.same _ _, Rd1.same _ _, h5, Rd1.same _ _, Rd1.same _ _, Rd1.same _ _, Rd1.same _ _, Rd1.same _ _, h6, h7, Rd1.same _ _, trivial⟩
def bkO (A : Heap) (el : List D) (x : BkS) : Prop := ∃ u t a p, el = [u, i64 x.tm.k, t, a, i64 x.tm.pl.lo, p, strD x.tm.nm] ∧ oS A 75 11 u ∧ oS A 3 1 t ∧ oS A 91 4 a ∧ oS A 139 2 p ∧ Rd1 A u (.seq 11 (x.st.map stD)) ∧ Rd1 A t (.seq 1 (x.tm.tg.map iD)) ∧ Rd1 A a (.seq 4 (x.tm.ar.map opD)) ∧ Rd1 A p (.seq 2 (x.tm.pl.pr.map pD))
theorem bkO.mono {A B : Heap} (h : A.le B) (el : List D) (x : BkS) (k : bkO A el x) : bkO B el x := by
  obtain ⟨u, t, a, p, h1, h2, h3, h4, h5, h6, h7, h8, h9⟩ := k
  exact ⟨u, t, a, p, h1, oS_mono h h2, oS_mono h h3, oS_mono h h4, oS_mono h h5, h6.mono h, h7.mono h, h8.mono h, h9.mono h⟩
theorem bkO.ok (A : Heap) (el : List D) (x : BkS) (k : bkO A el x) : OkEl A 44 el := by
  obtain ⟨u, t, a, p, rfl, h2, h3, h4, h5, h6, h7, h8, h9⟩ := k
  exact ok_bk h2 h3 h4 h5
theorem bkO.rd (A : Heap) (el : List D) (x : BkS) (k : bkO A el x) : RdL A el (bkD x) := by
  obtain ⟨u, t, a, p, rfl, h2, h3, h4, h5, h6, h7, h8, h9⟩ := k
  exact ⟨h6, Rd1.same _ _, h7, h8, Rd1.same _ _, h9, Rd1.same _ _, trivial⟩
end Go.Proofs.Ytbcghjcakincoaa
