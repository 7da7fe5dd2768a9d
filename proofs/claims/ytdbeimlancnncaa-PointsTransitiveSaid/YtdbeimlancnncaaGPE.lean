/- Lemmas and contracts of functions, several texts in one: P8 P9 PA. -/
import Derived.Test.YtdbeimlancnncaaGPD
import Derived.Test.YtdbeimlancnncaaGPB
/- package points: Edges. -/
namespace Go.Proofs.Ytdbeimlancnncaa
open Go.RowKit
set_option linter.unusedVariables false
set_option maxRecDepth 100000
set_option linter.unusedSimpArgs false
noncomputable def edgL (G : Gr) (l : List (Nat × Nat × Nat)) : List (Int × Int) := l.flatMap fun x => (nxt G x.1).map fun q => ((x.1 : Int), q)
theorem edgL_snoc (G : Gr) (l : List (Nat × Nat × Nat)) (x : Nat × Nat × Nat) : edgL G (l ++ [x]) = edgL G l ++ (nxt G x.1).map fun q => ((x.1 : Int), q) := by
  unfold edgL; rw [List.flatMap_append]; simp
theorem blkP_fst (G : Gr) (i n : Nat) : (blkP G i n).map (·.1) = (List.range n).map fun k => fstG G i + k := by
  unfold blkP; rw [List.map_map]; rfl
theorem allP_fst (G : Gr) : ∀ n, n ≤ G.length → (allP G n).map (·.1) = List.range (fstG G n)
  | 0, _ => rfl
  | n + 1, h => by
    rw [allP_succ (by omega), List.map_append, allP_fst G n (by omega), blkP_fst, fstG_succ (by omega), Nat.add_assoc]
    exact List.range_add.symm
theorem edgL_all (G : Gr) : edgL G (allP G G.length) = edgs G := by
  have h1 := allP_fst G G.length (Nat.le_refl _)
  rw [fstG_ge (Nat.le_refl _)] at h1
  unfold edgL edgs ups
  rw [← h1, List.map_map, List.flatMap_map]
  rfl
theorem edgL_len (G : Gr) (l : List (Nat × Nat × Nat)) : (edgL G l).length ≤ l.length * cntG G := by
  induction l with
  | nil => simp [edgL]
  | cons x l ih =>
    have : edgL G (x :: l) = ((nxt G x.1).map fun q => ((x.1 : Int), q)) ++ edgL G l := rfl
    rw [this, List.length_append, List.length_map, List.length_cons, Nat.succ_mul]
    have := nxt_len G x.1
    omega
theorem allP_len (G : Gr) : (allP G G.length).length = cntG G := by
  have h1 := congrArg List.length (allP_fst G G.length (Nat.le_refl _))
  rwa [List.length_map, List.length_range, fstG_ge (Nat.le_refl _)] at h1
theorem all_at {b : GBdy} {x : Nat × Nat × Nat} (h : x ∈ allP b.g b.g.length) : At b.g x.1 x.2.1 x.2.2 := by
  obtain ⟨h1, h2, h3⟩ := mem_allP.1 h
  refine ⟨h1, ?_, by omega⟩
  rw [List.getD_eq_getElem?_getD, List.getElem?_eq_getElem h1] at h2
  exact h2
/-- The edges so far stand in the cell c. -/
def EdI (H : Heap) (c : Nat) (l : List (Int × Int)) (Hc : Heap) : Prop := H.le Hc ∧ ∃ x ob, Hc c = some (.row 27 0 1 [[x]]) ∧ Gl H 25 2 (l.map pD) x Hc ob ∧ ob ≠ some c
set_option maxHeartbeats 1000000 in
theorem edges_N (b : GBdy) (H : Heap) (hc : cntG b.g ≤ 1000000) (hta : ∀ x ∈ b.bl, x.tg.length ≤ 1000000) : Does Try.prog 21 [.agg (gbdD b)] H fun d H' => d = .seq 2 ((edgs b.g).map pD) ∧ H = H' := by
  refine Does.frz (K := fun d => d = .seq 2 ((edgs b.g).map pD)) ?_
  refine does_ofM _ _ Try.func21 rfl rfl Try.ntmps21 Try.results21 (by simp only [List.length_cons, List.length_nil]; omega) fun w0 Q hret => ?_
  (have fs := And.intro @i64.eq_1 @gbdD.eq_1; (repeat (first | refine hGx _ ?_ | refine hNx _ ?_ | refine W_skip ?_ | refine W_exit ?_ | refine W_ret ?_ | refine W_label ?_ | refine W_scope ?_ | refine W_block ?_ | refine W_seq ?_ | ((first | refine tS fun N hNx => ?_ | refine WL_gE rfl rfl (by kernel_rfl) (by kernel_rfl) fun G hGx => ?_ | refine vcOpsS_sound (by kernel_rfl) ?_ | refine W_ifE fun A B hAx hBx => ?_); refine evT ?_; (first | refine hGx _ ?_ | refine hNx _ ?_ | refine hAx ?_ | refine hBx ?_ | skip)))); (try clear fs))
  intro c1 hc1
  refine hNx _ ?_
  refine W_frzp 1 rfl (Heap.upd_same _ _ _) rfl ?_; simp only [St.frzp, put_H, wdf_H, withH_H, withH_put, wdf_withH, withH_withH, init_H, init_withH, Heap.del_upd_same, Heap.del_none hc1, withH_self]
  (have fs := @i64.eq_1; (repeat (first | refine hGx _ ?_ | refine hNx _ ?_ | refine W_skip ?_ | refine W_exit ?_ | refine W_ret ?_ | refine W_label ?_ | refine W_scope ?_ | refine W_block ?_ | refine W_seq ?_ | ((first | refine tS fun N hNx => ?_ | refine WL_gE rfl rfl (by kernel_rfl) (by kernel_rfl) fun G hGx => ?_ | refine vcOpsS_sound (by kernel_rfl) ?_ | refine W_ifE fun A B hAx hBx => ?_); refine evT ?_; (first | refine hGx _ ?_ | refine hNx _ ?_ | refine hAx ?_ | refine hBx ?_ | skip)))); (try clear fs))
  intro c3 hc3
  refine hNx _ ?_
  (have fs := @i64.eq_1; (repeat (first | refine hGx _ ?_ | refine hNx _ ?_ | refine W_skip ?_ | refine W_exit ?_ | refine W_ret ?_ | refine W_label ?_ | refine W_scope ?_ | refine W_block ?_ | refine W_seq ?_ | ((first | refine tS fun N hNx => ?_ | refine WL_gE rfl rfl (by kernel_rfl) (by kernel_rfl) fun G hGx => ?_ | refine vcOpsS_sound (by kernel_rfl) ?_ | refine W_ifE fun A B hAx hBx => ?_); refine evT ?_; (first | refine hGx _ ?_ | refine hNx _ ?_ | refine hAx ?_ | refine hBx ?_ | skip)))); (try clear fs))
  refine (starts_N b _ hc).mono ?_
  rintro d _ ⟨rfl, rfl⟩
  (have fs := @i64.eq_1; (repeat (first | refine hGx _ ?_ | refine hNx _ ?_ | refine W_skip ?_ | refine W_exit ?_ | refine W_ret ?_ | refine W_label ?_ | refine W_scope ?_ | refine W_block ?_ | refine W_seq ?_ | ((first | refine tS fun N hNx => ?_ | refine WL_gE rfl rfl (by kernel_rfl) (by kernel_rfl) fun G hGx => ?_ | refine vcOpsS_sound (by kernel_rfl) ?_ | refine W_ifE fun A B hAx hBx => ?_); refine evT ?_; (first | refine hGx _ ?_ | refine hNx _ ?_ | refine hAx ?_ | refine hBx ?_ | skip)))); (try clear fs))
  intro c4 hc4
  refine hNx _ ?_
  refine W_frzp 4 rfl (Heap.upd_same _ _ _) rfl ?_; simp only [St.frzp, put_H, wdf_H, withH_H, withH_put, wdf_withH, withH_withH, init_H, init_withH, Heap.del_upd_same, Heap.del_none hc4, withH_self]
  (have fs := @i64.eq_1; (repeat (first | refine hGx _ ?_ | refine hNx _ ?_ | refine W_skip ?_ | refine W_exit ?_ | refine W_ret ?_ | refine W_label ?_ | refine W_scope ?_ | refine W_block ?_ | refine W_seq ?_ | ((first | refine tS fun N hNx => ?_ | refine WL_gE rfl rfl (by kernel_rfl) (by kernel_rfl) fun G hGx => ?_ | refine vcOpsS_sound (by kernel_rfl) ?_ | refine W_ifE fun A B hAx hBx => ?_); refine evT ?_; (first | refine hGx _ ?_ | refine hNx _ ?_ | refine hAx ?_ | refine hBx ?_ | skip)))); (try clear fs))
  refine (all_N b _).mono ?_
  rintro d _ ⟨rfl, rfl⟩
  (have fs := @i64.eq_1; (repeat (first | refine hGx _ ?_ | refine hNx _ ?_ | refine W_skip ?_ | refine W_exit ?_ | refine W_ret ?_ | refine W_label ?_ | refine W_scope ?_ | refine W_block ?_ | refine W_seq ?_ | ((first | refine tS fun N hNx => ?_ | refine WL_gE rfl rfl (by kernel_rfl) (by kernel_rfl) fun G hGx => ?_ | refine vcOpsS_sound (by kernel_rfl) ?_ | refine W_ifE fun A B hAx hBx => ?_); refine evT ?_; (first | refine hGx _ ?_ | refine hNx _ ?_ | refine hAx ?_ | refine hBx ?_ | skip)))); (try clear fs))
  have hle0 : H.le (H.upd c3 (.row 27 0 1 [[.val (.slice none 0 0)]])) := Heap.le_put (Heap.le_refl _) hc3
  refine W_gen (fun s => s.df = [] ∧ s.fr 1 = .rp (gbdD b) ∧ s.fr 3 = .ep c3 0 1 0 0 ∧ s.fr 4 = .rp [.seq 1 ((stP b.g (b.bl.length + 1)).map iD)] ∧ s.fr 12 = .fn 30 [.rp (gbdD b)] ∧ H.le s.H ∧ EdI H.nob c3 [] s.H) ⟨rfl, rfl, rfl, rfl, rfl, hle0, Heap.le_trans (nob_le H) hle0, _, none, Heap.upd_same _ _ _, Gl.nil _ _ _ _, by simp⟩ ?_
  rintro s ⟨hdf, f1, f3, f4, f12, hleS, hI0⟩
  simp only [gbdD] at f1
  refine W_rangeFunc rfl (all_it b hc) f12 (fun _ _ => trivial) (by simp) (fun _ => rfl) (fun pre => EdI H.nob c3 (edgL b.g pre)) (fun _ _ _ => False) ?_ ?_ ?_ ?_ ?_ ?_
  · rintro pre H1 H2 hr ⟨h1, x, ob, h2, h3, h4⟩
    refine ⟨le_rle (nob_no H) h1 hr, x, ob, hr _ _ h2 (by simp), ?_, h4⟩
    rcases h3 with h3 | ⟨c, o, g1, g2, g3, g4⟩
    · exact .inl h3
    · exact .inr ⟨c, o, g1, g2, g3, hr _ _ g4 (by simp)⟩
  · exact fun _ _ _ _ _ h => h
  · exact hI0
  · rintro l w1 pre x Hc o hpre ⟨g1, xs, ob, g2, g3, g4⟩ hob hl
    rw [ptD, rst2]
    (have fs := And.intro @i64.eq_1 (And.intro wdf_fr (And.intro wdf_H (And.intro wdf_df (And.intro wdf_withH hdf)))); (repeat (first | refine hGx _ ?_ | refine hNx _ ?_ | refine W_skip ?_ | refine W_exit ?_ | refine W_ret ?_ | refine W_label ?_ | refine W_scope ?_ | refine W_block ?_ | refine W_seq ?_ | ((first | refine tS fun N hNx => ?_ | refine WL_gE rfl rfl (by kernel_rfl) (by kernel_rfl) fun G hGx => ?_ | refine vcOpsS_sound (by kernel_rfl) ?_ | refine W_ifE fun A B hAx hBx => ?_); refine evT ?_; (first | refine hGx _ ?_ | refine hNx _ ?_ | refine hAx ?_ | refine hBx ?_ | skip)))); (try clear fs))
    intro b9 hb9
    refine hNx _ ?_
    simp only [thenQ_n]
    refine ⟨rfl, objs.new (objs_refl _) hb9, fun w2 y => ?_⟩
    have n5 : ∀ c x, Hc c = some x → c ≠ b9 := fun c x h e => by rw [e, hb9] at h; cases h
    have nl : ∀ c t o sz els, Hc c = some (.row t o sz els) → c ≠ l := fun c t o sz els h e => by rw [e, hl] at h; cases h
    have n3 := nl _ _ _ _ _ g2
    have l5 := n5 _ _ hl
    have hxm : x ∈ allP b.g b.g.length := hpre.subset (by simp)
    have hpl : pre.length + 1 ≤ cntG b.g := by
      have h1 := hpre.length_le
      rw [allP_len, List.length_append, List.length_singleton] at h1
      exact h1
    have hel := edgL_len b.g pre
    have hel2 : pre.length * cntG b.g ≤ 1000000 * 1000000 := Nat.mul_le_mul (by omega) hc
    have hsn := edgL_snoc b.g pre x
    refine W_frzp 6 rfl (b := b9) (by simp only [put_H, wdf_H, withH_H]; rw [Heap.upd_ne (Ne.symm l5), Heap.upd_same]) rfl ?_
    simp only [St.frzp, put_H, wdf_H, withH_H, withH_put, wdf_withH, withH_withH, Heap.del_upd_ne (Ne.symm l5), Heap.del_upd_same, Heap.del_none hb9, List.drop]
    have hno5 := fun (x : HObj) (hx : ∀ o, x ≠ .obj o) => objs_drop (H := Hc) (b := b9) (l := l) (y := y) hx
    (have fs := And.intro f1 (And.intro f4 (And.intro @i64.eq_1 (And.intro wdf_fr (And.intro wdf_H (And.intro wdf_df wdf_withH))))); (repeat (first | refine hGx _ ?_ | refine hNx _ ?_ | refine W_skip ?_ | refine W_exit ?_ | refine W_ret ?_ | refine W_label ?_ | refine W_scope ?_ | refine W_block ?_ | refine W_seq ?_ | ((first | refine tS fun N hNx => ?_ | refine WL_gE rfl rfl (by kernel_rfl) (by kernel_rfl) fun G hGx => ?_ | refine vcOpsS_sound (by kernel_rfl) ?_ | refine W_ifE fun A B hAx hBx => ?_); refine evT ?_; (first | refine hGx _ ?_ | refine hNx _ ?_ | refine hAx ?_ | refine hBx ?_ | skip)))); (try clear fs))
    refine (next_N b x.1 x.2.1 x.2.2 _ (all_at hxm) hc hta).mono ?_
    rintro d _ ⟨rfl, rfl⟩
    have hnl := nxt_len b.g x.1
    have hml : (List.map iD (nxt b.g x.1)).length = (nxt b.g x.1).length := List.length_map _
    obtain ⟨L, hL⟩ : ∃ L, L = nxt b.g x.1 := ⟨_, rfl⟩
    rw [← hL] at hnl hml hsn ⊢
    (have fs := And.intro @i64.eq_1 hml; (repeat (first | refine hGx _ ?_ | refine hNx _ ?_ | refine W_skip ?_ | refine W_exit ?_ | refine W_ret ?_ | refine W_label ?_ | refine W_scope ?_ | refine W_block ?_ | refine W_seq ?_ | ((first | refine tS fun N hNx => ?_ | refine WL_gE rfl rfl (by kernel_rfl) (by kernel_rfl) fun G hGx => ?_ | refine vcOpsS_sound (by kernel_rfl) ?_ | refine W_ifE fun A B hAx hBx => ?_); refine evT ?_; (first | refine hGx _ ?_ | refine hNx _ ?_ | refine hAx ?_ | refine hBx ?_ | skip)))); (try clear fs))
    have hHb : EdI H.nob c3 (edgL b.g pre) (Hc.upd l (.obj y)) := by
      refine ⟨le_rle (nob_no H) g1 (rle_obj hl), xs, ob, (Heap.upd_ne n3).trans g2, ?_, g4⟩
      exact g3.keep fun c h => Heap.upd_ne fun e => by
        rcases g3 with g3 | ⟨c', o', h1, _, _, h2⟩
        · rw [g3.1] at h; cases h
        · rw [h1] at h; injection h with h; rw [h, e, hl] at h2; cases h2
    refine W_loopN L.length (fun j s => s.df = [] ∧ s.fr 3 = .ep c3 0 1 0 0 ∧ s.fr 5 = i64 x.1 ∧ s.fr 18 = .seq 1 (L.map iD) ∧ s.fr 19 = i64 L.length ∧ s.fr 20 = i64 j ∧ objs ((Hc.upd b9 (.row 72 0 2 [[i64 x.2.1, i64 x.2.2]])).upd l (.obj y)) s.H ∧ EdI H.nob c3 (edgL b.g pre ++ (L.take j).map fun q => ((x.1 : Int), q)) s.H) ⟨rfl, f3, rfl, rfl, rfl, rfl, hno5 _ (by simp), by rw [List.take_zero, List.map_nil, List.append_nil]; exact hHb⟩ ?_
    rintro j s2 hj ⟨gdf, k3, k5, k18, k19, k20, kob, kle, xs2, ob2, kc3, kg, kne⟩
    have hxj : (j : Int).toNat = j := Int.toNat_natCast _
    have h0j : (0 : Int) ≤ (j : Int) := Int.natCast_nonneg _
    by_cases hjl : j < L.length
    case neg =>
      have q2 : ((j : Int) < (L.length : Int)) = False := eq_false (by omega)
      rw [List.take_of_length_le (by omega), ← hsn] at kg
      (have fs := And.intro k19 (And.intro k20 (And.intro @i64.eq_1 q2)); (repeat (first | refine hGx _ ?_ | refine hNx _ ?_ | refine W_skip ?_ | refine W_exit ?_ | refine W_ret ?_ | refine W_label ?_ | refine W_scope ?_ | refine W_block ?_ | refine W_seq ?_ | ((first | refine tS fun N hNx => ?_ | refine WL_gE rfl rfl (by kernel_rfl) (by kernel_rfl) fun G hGx => ?_ | refine vcOpsS_sound (by kernel_rfl) ?_ | refine W_ifE fun A B hAx hBx => ?_); refine evT ?_; (first | refine hGx _ ?_ | refine hNx _ ?_ | refine hAx ?_ | refine hBx ?_ | skip)))); (try clear fs))
      exact ⟨gdf, kob, kle, xs2, ob2, kc3, kg, kne⟩
    have q2 : ((j : Int) < (L.length : Int)) = True := eq_true (by omega)
    have hgj := get_ints hjl
    have w4 : IntKind.i64.wrap ((j : Int) + 1) = ((j + 1 : Nat) : Int) := by rw [wrap_i64_of (by omega)]; omega
    (have fs := And.intro k3 (And.intro k5 (And.intro k18 (And.intro k19 (And.intro k20 (And.intro @i64.eq_1 (And.intro q2 (And.intro hml (And.intro hgj (And.intro hxj (And.intro h0j (And.intro hjl kc3))))))))))); (repeat (first | refine hGx _ ?_ | refine hNx _ ?_ | refine W_skip ?_ | refine W_exit ?_ | refine W_ret ?_ | refine W_label ?_ | refine W_scope ?_ | refine W_block ?_ | refine W_seq ?_ | ((first | refine tS fun N hNx => ?_ | refine WL_gE rfl rfl (by kernel_rfl) (by kernel_rfl) fun G hGx => ?_ | refine vcOpsS_sound (by kernel_rfl) ?_ | refine W_ifE fun A B hAx hBx => ?_); refine evT ?_; (first | refine hGx _ ?_ | refine hNx _ ?_ | refine hAx ?_ | refine hBx ?_ | skip)))); (try clear fs))
    refine apV_grow (e := 25) ty27 rfl ty27 rfl ty25 rfl (by decide) kle kg (new := [pD ((x.1 : Int), L[j])]) (by exact ⟨rfl, rfl⟩) (by rw [List.length_map, List.length_append, List.length_map, List.length_take]; show (_ + 1) * 16 ≤ _; omega) fun d H6 ob6 hg6 hle6 hp6 => ?_
    have q3 := hp6 _ _ kc3 kne
    have q31 := q3.1
    have hd6 : ∃ c o n, d = .os c o 2 0 n := by
      rcases hg6 with ⟨_, _, h⟩ | ⟨c, o, _, h, _⟩
      · simp at h
      · exact ⟨c, o, _, h⟩
    obtain ⟨c', o', n', rfl⟩ := hd6
    have e : (edgL b.g pre ++ (L.take (j + 1)).map fun q => ((x.1 : Int), q)).map pD = (edgL b.g pre ++ (L.take j).map fun q => ((x.1 : Int), q)).map pD ++ [pD ((x.1 : Int), L[j])] := by
      rw [List.take_succ_eq_append_getElem hjl]; simp only [List.map_append, List.map_cons, List.map_nil, List.append_assoc]
    (have fs := And.intro @i64.eq_1 q31; refine evT ?_; try clear fs); (first | refine hGx _ ?_ | refine hNx _ ?_ | skip)
    (have fs := And.intro k20 (And.intro @i64.eq_1 w4); (repeat (first | refine hGx _ ?_ | refine hNx _ ?_ | refine W_skip ?_ | refine W_exit ?_ | refine W_ret ?_ | refine W_label ?_ | refine W_scope ?_ | refine W_block ?_ | refine W_seq ?_ | ((first | refine tS fun N hNx => ?_ | refine WL_gE rfl rfl (by kernel_rfl) (by kernel_rfl) fun G hGx => ?_ | refine vcOpsS_sound (by kernel_rfl) ?_ | refine W_ifE fun A B hAx hBx => ?_); refine evT ?_; (first | refine hGx _ ?_ | refine hNx _ ?_ | refine hAx ?_ | refine hBx ?_ | skip)))); (try clear fs))
    refine ⟨hjl, gdf, k3, k5, k18, k19, rfl, (objs_grow kob kg hp6).row q31 (by simp), Heap.le_put hle6 (nob_none hc3), _, ob6, Heap.upd_same _ _ _, ?_, q3.2⟩
    rw [e]
    exact hg6.keep fun c h => Heap.upd_ne fun e => q3.2 (by rw [h, e])
  · rintro Hc M ⟨g1, xs, ob, g2, g3, g4⟩ hob hD hDn
    rw [df_wdf, blockQ_n, thenQ_n, hdf]
    have hM3 : c3 ≠ M := fun e => by rw [e, hD] at g2; cases g2
    rw [edgL_all] at g3
    have g1 := nob_full g1 hleS hob
    have g3 := gl_nob g3 g1
    (have fs := And.intro f3 (And.intro @i64.eq_1 g2); (repeat (first | refine hGx _ ?_ | refine hNx _ ?_ | refine W_skip ?_ | refine W_exit ?_ | refine W_ret ?_ | refine W_label ?_ | refine W_scope ?_ | refine W_block ?_ | refine W_seq ?_ | ((first | refine tS fun N hNx => ?_ | refine WL_gE rfl rfl (by kernel_rfl) (by kernel_rfl) fun G hGx => ?_ | refine vcOpsS_sound (by kernel_rfl) ?_ | refine W_ifE fun A B hAx hBx => ?_); refine evT ?_; (first | refine hGx _ ?_ | refine hNx _ ?_ | refine hAx ?_ | refine hBx ?_ | skip)))); (try clear fs))
    refine hret _ _ (.inr rfl) ?_ ?_
    · simp (maxSteps := 4000000) only [vX, vB, vT, vZ, vcOps, isCall, mmV, lkV, muV, keyVal, keyVals, mget_nil, ↓selV_eq, eqK, stepOp, clV, biV, bnU, nilU, binV, bInt, bStr, bNilP, bNilS, bNilM, nilOp, D.nilPtr, D.nilSl, D.nilMap, isBoolTy, unV, cwV, cvV, elsP, partV, fieldsOf, fieldV, faV, iaV, ixV, ldC, ldV, stV, D.cells, putAt, bxV, alV, bldD, placesOf, allSized, bdV, bsV, rowsD, mkV, bdN, slV, newsP, TD.notInt, TD.agg, azV, clrV, cpyV, cpV, lenV, minV, maxV, ncV, exV, condV, retV, thenQ, blockQ, Value.oneCell', forall_const, true_implies, ne_eq, reduceCtorEq, false_implies, eq_self, if_true, if_false, ↓reduceIte, Nat.reduceEqDiff, Int.reduceLE, Int.reduceLT, Int.reduceNeg, Int.reduceToNat, Nat.reduceAdd, Nat.reduceMul, Nat.reduceLeDiff, Nat.reduceMod, Nat.reduceSub, Int.reduceEq, Int.reduceNe, Int.reduceAdd, Int.reduceSub, Int.reduceMul, implies_true, wdf_fr, wdf_H, wdf_df, wdf_withH, thenQ_n, thenQ_r, blockQ_n, blockQ_r, roundQ_n, roundQ_r, noGotoQ_n, noGotoQ_r, noGotoQ_e, f3]
      exact mk1 hD
    · simp (maxSteps := 4000000) only [vX, vB, vT, vZ, vcOps, isCall, mmV, lkV, muV, keyVal, keyVals, mget_nil, ↓selV_eq, eqK, stepOp, clV, biV, bnU, nilU, binV, bInt, bStr, bNilP, bNilS, bNilM, nilOp, D.nilPtr, D.nilSl, D.nilMap, isBoolTy, unV, cwV, cvV, elsP, partV, fieldsOf, fieldV, faV, iaV, ixV, ldC, ldV, stV, D.cells, putAt, bxV, alV, bldD, placesOf, allSized, bdV, bsV, rowsD, mkV, bdN, slV, newsP, TD.notInt, TD.agg, azV, clrV, cpyV, cpV, lenV, minV, maxV, ncV, exV, condV, retV, thenQ, blockQ, Value.oneCell', forall_const, true_implies, ne_eq, reduceCtorEq, false_implies, eq_self, if_true, if_false, ↓reduceIte, Nat.reduceEqDiff, Int.reduceLE, Int.reduceLT, Int.reduceNeg, Int.reduceToNat, Nat.reduceAdd, Nat.reduceMul, Nat.reduceLeDiff, Nat.reduceMod, Nat.reduceSub, Int.reduceEq, Int.reduceNe, Int.reduceAdd, Int.reduceSub, Int.reduceMul, implies_true, wdf_fr, wdf_H, wdf_df, wdf_withH, thenQ_n, thenQ_r, blockQ_n, blockQ_r, roundQ_n, roundQ_r, noGotoQ_n, noGotoQ_r, noGotoQ_e, f3]
      rw [offM1]
      have hMo : ∀ c, ob = some c → c ≠ M := fun c h e => by
        rcases g3 with ⟨g, _⟩ | ⟨c2, o2, h1, _, _, h4⟩
        · rw [g] at h; cases h
        · rw [h] at h1; injection h1 with h1; rw [← h1, e, hD] at h4; cases h4
      have hle9 : H.le (Hc.upd M .hid) := Heap.le_put g1 (Heap.none_of hleS hDn)
      exact ⟨_, Heap.le_refl _, hle9, _, frz_gl hle9 (g3.keep fun c h => Heap.upd_ne (hMo c h)), rfl⟩
  · exact fun _ _ _ _ _ _ h => h.elim
end Go.Proofs.Ytdbeimlancnncaa
/- package points: Reaches. -/
namespace Go.Proofs.Ytdbeimlancnncaa
open Go.RowKit
set_option linter.unusedVariables false
set_option maxRecDepth 100000
set_option linter.unusedSimpArgs false
theorem nodup_nat : ∀ (N : Nat) (S : List Nat), S.Nodup → (∀ x ∈ S, x < N) → S.length ≤ N
  | 0, S, _, h => by
    cases S with
    | nil => simp
    | cons x S => exact absurd (h x (by simp)) (by omega)
  | N + 1, S, hn, h => by
    by_cases hm : N ∈ S
    · have h1 := nodup_nat N (S.erase N) (hn.erase N) fun x hx => by
        have h2 := (hn.mem_erase_iff).1 hx
        have := h x h2.2
        omega
      rw [List.length_erase_of_mem hm] at h1
      omega
    · have := nodup_nat N S hn fun x hx => by
        have := h x hx
        have : x ≠ N := fun e => hm (e ▸ hx)
        omega
      omega
theorem nodup_le {n : Int} {S : List Int} (hn : S.Nodup) (h : ∀ x ∈ S, InR n x) : S.length ≤ n.toNat := by
  have := nodup_nat n.toNat (S.map Int.toNat) (by
    rw [List.nodup_iff_pairwise_ne, List.pairwise_map]
    rw [List.nodup_iff_pairwise_ne] at hn
    refine List.Pairwise.imp_of_mem ?_ hn
    intro a b ha hb hab e
    have h1 := h a ha
    have h2 := h b hb
    unfold InR at h1 h2
    exact hab (by omega)) (fun x hx => by
      obtain ⟨y, hy, rfl⟩ := List.mem_map.1 hx
      have := h y hy
      unfold InR at this
      omega)
  simpa using this
def trueB (S : List Int) (x : Int) : Option D := if x ∈ S then some (.val (.bool true)) else none
theorem trueB_cons (x : Int) (S : List Int) : ∀ y, (if y = x then some (D.val (.bool true)) else trueB S y) = trueB (x :: S) y := fun y => by
  unfold trueB
  by_cases h : y = x
  · subst h; simp
  · rw [if_neg h]
    have : (y ∈ x :: S) = (y ∈ S) := by simp [h]
    simp only [this]
theorem trueB_nil : ∀ y, (none : Option D) = trueB [] y := fun y => by simp [trueB]
/-- What the search knows: the points seen, those still to be looked at; all but those and z are closed. -/
structure SrP (G : Gr) (a t : Int) (z : Option Int) (S q : List Int) : Prop where
  nd : S.Nodup
  rea : ∀ x ∈ S, Rea G a x
  nt : t ∉ S
  qs : ∀ x ∈ q, x ∈ S ∨ x = a
  cl : ∀ x, x ∈ S ∨ x = a → x ∉ q → some x ≠ z → ∀ y, Fol G x y → y ∈ S
theorem SrP.len {G : Gr} {a t : Int} {z : Option Int} {S q : List Int} (h : SrP G a t z S q) : S.length ≤ cntG G := by
  have := nodup_le (n := (cntG G : Int)) h.nd fun x hx => (h.rea x hx).lt.2
  rwa [Int.toNat_natCast] at this
def RcI (b : GBdy) (a t : Int) (bm : Nat) (H : Heap) (k : Nat) (s : St) : Prop :=
  s.df = [] ∧ s.fr 2 = i64 t ∧ s.fr 3 = .rp (gbdD b) ∧ s.fr 7 = .val (.map (some bm)) ∧ H.le s.H ∧ k ≤ 2 * cntG b.g + 1 ∧ ∃ M S q ob, s.H bm = some (.map M) ∧ IntM M (trueB S) ∧ Gk H 3 1 (q.map iD) (s.fr 8) s.H ob ∧ ob ≠ some bm ∧ SrP b.g a t none S q ∧ 2 * (cntG b.g - S.length) + q.length ≤ k
set_option maxHeartbeats 1000000 in
theorem reach_N (b : GBdy) (a t : Int) (H : Heap) (hc : cntG b.g ≤ 1000000) (hta : ∀ x ∈ b.bl, x.tg.length ≤ 1000000) (ha64 : I64 a) (ht64 : I64 t) : Does Try.prog 23 [.agg (gbdD b), i64 a, i64 t] H fun d H' => d = .val (.bool (reaB b.g a t)) ∧ H = H' := by
  refine Does.frz (K := fun d => d = .val (.bool (reaB b.g a t))) ?_
  unfold I64 at ha64 ht64
  refine does_of _ _ Try.func23 rfl rfl Try.ntmps23 Try.results23 (by simp only [List.length_cons, List.length_nil]; omega) fun w0 Q hret => ?_
  (have fs := And.intro @i64.eq_1 @gbdD.eq_1; (repeat (first | refine hGx _ ?_ | refine hNx _ ?_ | refine W_skip ?_ | refine W_exit ?_ | refine W_ret ?_ | refine W_label ?_ | refine W_scope ?_ | refine W_block ?_ | refine W_seq ?_ | ((first | refine tS fun N hNx => ?_ | refine WL_gE rfl rfl (by kernel_rfl) (by kernel_rfl) fun G hGx => ?_ | refine vcOpsS_sound (by kernel_rfl) ?_ | refine W_ifE fun A B hAx hBx => ?_); refine evT ?_; (first | refine hGx _ ?_ | refine hNx _ ?_ | refine hAx ?_ | refine hBx ?_ | skip)))); (try clear fs))
  intro c3 hc3
  refine hNx _ ?_
  refine W_frzp 3 rfl (Heap.upd_same _ _ _) rfl ?_; simp only [St.frzp, put_H, wdf_H, withH_H, withH_put, wdf_withH, withH_withH, init_H, init_withH, Heap.del_upd_same, Heap.del_none hc3, withH_self]
  (have fs := @i64.eq_1; (repeat (first | refine hGx _ ?_ | refine hNx _ ?_ | refine W_skip ?_ | refine W_exit ?_ | refine W_ret ?_ | refine W_label ?_ | refine W_scope ?_ | refine W_block ?_ | refine W_seq ?_ | ((first | refine tT fun N hNx => ?_ | refine WL_gO rfl rfl (by kernel_rfl) (by kernel_rfl) fun G hGx => ?_ | refine vcOpsT_sound (by kernel_rfl) ?_ | refine W_ifE fun A B hAx hBx => ?_); refine evT ?_; (first | refine hGx _ ?_ | refine hNx _ ?_ | refine hAx ?_ | refine hBx ?_ | skip)))); (try clear fs))
  intro bm hbm
  refine hNx _ ?_
  (have fs := @i64.eq_1; (repeat (first | refine hGx _ ?_ | refine hNx _ ?_ | refine W_skip ?_ | refine W_exit ?_ | refine W_ret ?_ | refine W_label ?_ | refine W_scope ?_ | refine W_block ?_ | refine W_seq ?_ | ((first | refine tT fun N hNx => ?_ | refine WL_gO rfl rfl (by kernel_rfl) (by kernel_rfl) fun G hGx => ?_ | refine vcOpsT_sound (by kernel_rfl) ?_ | refine W_ifE fun A B hAx hBx => ?_); refine evT ?_; (first | refine hGx _ ?_ | refine hNx _ ?_ | refine hAx ?_ | refine hBx ?_ | skip)))); (try clear fs))
  intro bq hbq
  have hbm' : (H.upd bm (.map [])) bm = some (.map []) := Heap.upd_same _ _ _
  have nqm : bm ≠ bq := Heap.ne_of hbm' hbq
  have hq0 : H bq = none := (Heap.upd_none.1 hbq).2
  (have fs := @i64.eq_1; (repeat (first | refine hGx _ ?_ | refine hNx _ ?_ | refine W_skip ?_ | refine W_exit ?_ | refine W_ret ?_ | refine W_label ?_ | refine W_scope ?_ | refine W_block ?_ | refine W_seq ?_ | ((first | refine tS fun N hNx => ?_ | refine WL_gE rfl rfl (by kernel_rfl) (by kernel_rfl) fun G hGx => ?_ | refine vcOpsS_sound (by kernel_rfl) ?_ | refine W_ifE fun A B hAx hBx => ?_); refine evT ?_; (first | refine hGx _ ?_ | refine hNx _ ?_ | refine hAx ?_ | refine hBx ?_ | skip)))); (try clear fs))
  refine W_loopM (RcI b a t bm H) (2 * cntG b.g + 1) ⟨rfl, rfl, rfl, rfl, Heap.le_put (Heap.le_put (Heap.le_refl _) hbm) hq0, by omega, [], [], [a], some bq, (Heap.upd_ne nqm).trans hbm', IntM.nil.congr trueB_nil, .inr ⟨bq, 0, 0, [[i64 a]], rfl, rfl, hq0, Heap.upd_same _ _ _, rfl, by simp⟩, (fun e => nqm (by injection e with e; exact e.symm)), ⟨by simp, by simp, by simp, (by intro x hx; rw [List.mem_singleton] at hx; exact .inr hx), (fun x hx hxq => absurd (List.mem_singleton.2 (hx.elim (fun h => (by cases h)) id)) hxq)⟩, by simp⟩ ?_
  rintro k s ⟨hdf, f2, f3, f7, hle, hk, M, S, q, ob, hHm, hM2, hgk, hne, hS, hmu⟩
  simp only [gbdD] at f3
  cases q with
  | nil =>
    have hfin : ∀ v : Bool, (t ∈ S ↔ v = true) → v = reaB b.g a t := fun v hv => by
      cases v with
      | true => exact absurd (hv.2 rfl) hS.nt
      | false => exact (reaB_f.2 fun hr => hS.nt (rea_closed (fun x hx => hS.cl a (.inr rfl) (by simp) (by simp) x hx) (fun x hx y hy => hS.cl x (.inl hx) (by simp) (by simp) y hy) hr)).symm
    have hlk := hM2.get t
    have hkok := hM2.ok (P := Try.prog) Try.underlying3 ht64
    have q0 : ∃ c o k', s.fr 8 = .val (.slice none 0 0) ∨ s.fr 8 = .os c o 1 k' 0 := by
      rcases hgk with ⟨_, h, _⟩ | ⟨c, o, k', _, _, h, _⟩
      · exact ⟨0, 0, 0, .inl h⟩
      · exact ⟨c, o, k', .inr h⟩
    obtain ⟨c, o, k', q0⟩ := q0
    have hl2 : trueB S t = none := if_neg hS.nt
    rw [hl2] at hlk
    have hv := hfin false (by simp [hS.nt])
    rcases q0 with f8 | f8
    · (have fs := And.intro f2 (And.intro f7 (And.intro f8 (And.intro @i64.eq_1 (And.intro hHm hlk)))); (repeat (first | refine hGx _ ?_ | refine hNx _ ?_ | refine W_skip ?_ | refine W_exit ?_ | refine W_ret ?_ | refine W_label ?_ | refine W_scope ?_ | refine W_block ?_ | refine W_seq ?_ | ((first | refine tS fun N hNx => ?_ | refine WL_gE rfl rfl (by kernel_rfl) (by kernel_rfl) fun G hGx => ?_ | refine vcOpsS_sound (by kernel_rfl) ?_ | refine W_ifE fun A B hAx hBx => ?_); refine evT ?_; (first | refine hGx _ ?_ | refine hNx _ ?_ | refine hAx ?_ | refine hBx ?_ | skip)))); (try clear fs)); refine ⟨hkok, ?_⟩; (have fs := And.intro f2 (And.intro f7 (And.intro f8 @i64.eq_1)); (repeat (first | refine hGx _ ?_ | refine hNx _ ?_ | refine W_skip ?_ | refine W_exit ?_ | refine W_ret ?_ | refine W_label ?_ | refine W_scope ?_ | refine W_block ?_ | refine W_seq ?_ | ((first | refine tS fun N hNx => ?_ | refine WL_gE rfl rfl (by kernel_rfl) (by kernel_rfl) fun G hGx => ?_ | refine vcOpsS_sound (by kernel_rfl) ?_ | refine W_ifE fun A B hAx hBx => ?_); refine evT ?_; (first | refine hGx _ ?_ | refine hNx _ ?_ | refine hAx ?_ | refine hBx ?_ | skip)))); (try clear fs)); (first | (show Q .ret _) | (show Q .normal _) | skip); refine hret _ _ (by first | exact .inr rfl | exact .inl rfl) (by first | rfl | assumption | (simp only [put_df, withH_df]; assumption)) ?_; have fs := hdf; refine evT ?_; clear fs; exact ⟨_, Heap.le_refl _, hle, _, frz_refl hle, by rw [hv]⟩
    · (have fs := And.intro f2 (And.intro f7 (And.intro f8 (And.intro @i64.eq_1 (And.intro hHm hlk)))); (repeat (first | refine hGx _ ?_ | refine hNx _ ?_ | refine W_skip ?_ | refine W_exit ?_ | refine W_ret ?_ | refine W_label ?_ | refine W_scope ?_ | refine W_block ?_ | refine W_seq ?_ | ((first | refine tS fun N hNx => ?_ | refine WL_gE rfl rfl (by kernel_rfl) (by kernel_rfl) fun G hGx => ?_ | refine vcOpsS_sound (by kernel_rfl) ?_ | refine W_ifE fun A B hAx hBx => ?_); refine evT ?_; (first | refine hGx _ ?_ | refine hNx _ ?_ | refine hAx ?_ | refine hBx ?_ | skip)))); (try clear fs)); refine ⟨hkok, ?_⟩; (have fs := And.intro f2 (And.intro f7 (And.intro f8 @i64.eq_1)); (repeat (first | refine hGx _ ?_ | refine hNx _ ?_ | refine W_skip ?_ | refine W_exit ?_ | refine W_ret ?_ | refine W_label ?_ | refine W_scope ?_ | refine W_block ?_ | refine W_seq ?_ | ((first | refine tS fun N hNx => ?_ | refine WL_gE rfl rfl (by kernel_rfl) (by kernel_rfl) fun G hGx => ?_ | refine vcOpsS_sound (by kernel_rfl) ?_ | refine W_ifE fun A B hAx hBx => ?_); refine evT ?_; (first | refine hGx _ ?_ | refine hNx _ ?_ | refine hAx ?_ | refine hBx ?_ | skip)))); (try clear fs)); (first | (show Q .ret _) | (show Q .normal _) | skip); refine hret _ _ (by first | exact .inr rfl | exact .inl rfl) (by first | rfl | assumption | (simp only [put_df, withH_df]; assumption)) ?_; have fs := hdf; refine evT ?_; clear fs; exact ⟨_, Heap.le_refl _, hle, _, frz_refl hle, by rw [hv]⟩
  | cons x q =>
    obtain ⟨c, o, kq, els0, hob, f8, hc0, hHc, hd1, hk1', hgx, hd2, hk2'⟩ := Gk.cons (show Gk H 3 1 (iD x :: q.map iD) (s.fr 8) s.H ob from hgk)
    have hxS := hS.qs x (by simp)
    have hx64 : -9223372036854775808 ≤ x ∧ x ≤ 9223372036854775807 := by
      rcases hxS with h | rfl
      · have := (hS.rea x h).lt; omega
      · exact ha64
    have hxr : ∀ y, Fol b.g x y → Rea b.g a y := fun y hy => by
      rcases hxS with h | rfl
      · exact (hS.rea x h).step hy
      · exact .one hy
    rw [List.length_map] at f8
    have q1 : ((0 : Int) < ((q.length + 1 : Nat) : Int)) = True := eq_true (by omega)
    have hgx' : els0[kq]? = some [.val (.int .i64 x)] := hgx
    have w1 : ((1 : Int) ≤ ((q.length + 1 : Nat) : Int)) = True := eq_true (by omega)
    have hob' : c ≠ bm := fun e => hne (by rw [hob, e])
    (have fs := And.intro f2 (And.intro f3 (And.intro f7 (And.intro f8 (And.intro @i64.eq_1 (And.intro q1 (And.intro w1 (And.intro hHc hgx'))))))); (repeat (first | refine hGx _ ?_ | refine hNx _ ?_ | refine W_skip ?_ | refine W_exit ?_ | refine W_ret ?_ | refine W_label ?_ | refine W_scope ?_ | refine W_block ?_ | refine W_seq ?_ | ((first | refine tS fun N hNx => ?_ | refine WL_gE rfl rfl (by kernel_rfl) (by kernel_rfl) fun G hGx => ?_ | refine vcOpsS_sound (by kernel_rfl) ?_ | refine W_ifE fun A B hAx hBx => ?_); refine evT ?_; (first | refine hGx _ ?_ | refine hNx _ ?_ | refine hAx ?_ | refine hBx ?_ | skip)))); (try clear fs))
    refine (pnext_N b x _ hc (by omega) hta).mono ?_
    rintro d _ ⟨rfl, rfl⟩
    have hnl := nxt_len b.g x
    have hmn := fun y => mem_nxt (G := b.g) (p := x) (q := y)
    have hml : (List.map iD (nxt b.g x)).length = (nxt b.g x).length := List.length_map _
    obtain ⟨L, hL⟩ : ∃ L, L = nxt b.g x := ⟨_, rfl⟩
    rw [← hL] at hnl hml ⊢
    have hmL : ∀ y, y ∈ L ↔ Fol b.g x y := fun y => by rw [hL]; exact hmn y
    clear hmn
    have hq2 : (els0.drop (kq + 1)) = q.map iD := hd2
    (have fs := And.intro @i64.eq_1 hml; (repeat (first | refine hGx _ ?_ | refine hNx _ ?_ | refine W_skip ?_ | refine W_exit ?_ | refine W_ret ?_ | refine W_label ?_ | refine W_scope ?_ | refine W_block ?_ | refine W_seq ?_ | ((first | refine tS fun N hNx => ?_ | refine WL_gE rfl rfl (by kernel_rfl) (by kernel_rfl) fun G hGx => ?_ | refine vcOpsS_sound (by kernel_rfl) ?_ | refine W_ifE fun A B hAx hBx => ?_); refine evT ?_; (first | refine hGx _ ?_ | refine hNx _ ?_ | refine hAx ?_ | refine hBx ?_ | skip)))); (try clear fs))
    refine W_loopN L.length (fun i s => s.df = [] ∧ s.fr 2 = i64 t ∧ s.fr 3 = .rp (gbdD b) ∧ s.fr 7 = .val (.map (some bm)) ∧ s.fr 25 = .seq 1 (L.map iD) ∧ s.fr 26 = i64 L.length ∧ s.fr 27 = i64 i ∧ H.le s.H ∧ ∃ M S q ob, s.H bm = some (.map M) ∧ IntM M (trueB S) ∧ Gk H 3 1 (q.map iD) (s.fr 8) s.H ob ∧ ob ≠ some bm ∧ SrP b.g a t (some x) S q ∧ (∀ (j : Nat) (h : j < L.length), j < i → L[j] ∈ S) ∧ 2 * (cntG b.g - S.length) + q.length + 1 ≤ k) ?_ ?_
    · refine ⟨hdf, f2, f3, f7, rfl, rfl, rfl, hle, M, S, q, some c, hHm, hM2, .inr ⟨c, o, kq + 1, els0, rfl, by rw [List.length_map]; rfl, hc0, hHc, hd2, hk2'⟩, (fun e => hob' (by injection e)), ⟨hS.nd, hS.rea, hS.nt, fun y hy => hS.qs y (by simp [hy]), fun z hz hzq hzx y hy => hS.cl z hz (by simp [hzq]; intro e; exact hzx (by rw [e])) (by simp) y hy⟩, by omega, by rw [List.length_cons] at hmu; omega⟩
    rintro i s2 hi ⟨hdf2, k2, k3, k7, k25, k26, k27, hle2, M3, S3, q3, ob3, hHm3, hM3, hgk3, hne3, hS3, hsu, hmu3⟩
    have hx2 : (i : Int).toNat = i := Int.toNat_natCast _
    have h00 : (0 : Int) ≤ (i : Int) := Int.natCast_nonneg _
    by_cases hil : i < L.length
    case neg =>
      have p1 : ((i : Int) < (L.length : Int)) = False := eq_false (by omega)
      (have fs := And.intro k26 (And.intro k27 (And.intro @i64.eq_1 p1)); (repeat (first | refine hGx _ ?_ | refine hNx _ ?_ | refine W_skip ?_ | refine W_exit ?_ | refine W_ret ?_ | refine W_label ?_ | refine W_scope ?_ | refine W_block ?_ | refine W_seq ?_ | ((first | refine tS fun N hNx => ?_ | refine WL_gE rfl rfl (by kernel_rfl) (by kernel_rfl) fun G hGx => ?_ | refine vcOpsS_sound (by kernel_rfl) ?_ | refine W_ifE fun A B hAx hBx => ?_); refine evT ?_; (first | refine hGx _ ?_ | refine hNx _ ?_ | refine hAx ?_ | refine hBx ?_ | skip)))); (try clear fs))
      refine ⟨_, ?_, hdf2, k2, k3, k7, hle2, ?_, M3, S3, q3, ob3, hHm3, hM3, hgk3, hne3, ⟨hS3.nd, hS3.rea, hS3.nt, hS3.qs, fun z hz hzq _ y hy => ?_⟩, Nat.le_refl _⟩
      · exact hmu3
      · omega
      · by_cases hzx : z = x
        · subst hzx
          obtain ⟨j, hj, rfl⟩ := List.getElem_of_mem ((hmL y).2 hy)
          exact hsu j hj (by omega)
        · exact hS3.cl z hz hzq (by simpa using hzx) y hy
    have p1 : ((i : Int) < (L.length : Int)) = True := eq_true (by omega)
    have hgi := get_ints hil
    obtain ⟨y, hy⟩ : ∃ y, y = L[i] := ⟨_, rfl⟩
    rw [← hy] at hgi
    have hyF : Fol b.g x y := (hmL y).1 (by rw [hy]; exact List.getElem_mem hil)
    have hyR := hyF.lt.2
    have hy64 : -9223372036854775808 ≤ y ∧ y ≤ 9223372036854775807 := by omega
    have w3 : IntKind.i64.wrap ((i : Int) + 1) = ((i + 1 : Nat) : Int) := by rw [wrap_i64_of (by omega)]; omega
    have hky := hM3.ok (P := Try.prog) Try.underlying3 hy64
    have hlk3 := hM3.get y
    by_cases hyS : y ∈ S3
    · have hl2 : trueB S3 y = some (.val (.bool true)) := if_pos hyS
      rw [hl2] at hlk3
      (have fs := And.intro k2 (And.intro k7 (And.intro k25 (And.intro k26 (And.intro k27 (And.intro @i64.eq_1 (And.intro p1 (And.intro hgi (And.intro hx2 (And.intro h00 (And.intro hil (And.intro hml (And.intro hHm3 hlk3)))))))))))); (repeat (first | refine hGx _ ?_ | refine hNx _ ?_ | refine W_skip ?_ | refine W_exit ?_ | refine W_ret ?_ | refine W_label ?_ | refine W_scope ?_ | refine W_block ?_ | refine W_seq ?_ | ((first | refine tS fun N hNx => ?_ | refine WL_gE rfl rfl (by kernel_rfl) (by kernel_rfl) fun G hGx => ?_ | refine vcOpsS_sound (by kernel_rfl) ?_ | refine W_ifE fun A B hAx hBx => ?_); refine evT ?_; (first | refine hGx _ ?_ | refine hNx _ ?_ | refine hAx ?_ | refine hBx ?_ | skip)))); (try clear fs))
      refine ⟨hky, ?_⟩
      (have fs := And.intro k27 (And.intro @i64.eq_1 w3); (repeat (first | refine hGx _ ?_ | refine hNx _ ?_ | refine W_skip ?_ | refine W_exit ?_ | refine W_ret ?_ | refine W_label ?_ | refine W_scope ?_ | refine W_block ?_ | refine W_seq ?_ | ((first | refine tS fun N hNx => ?_ | refine WL_gE rfl rfl (by kernel_rfl) (by kernel_rfl) fun G hGx => ?_ | refine vcOpsS_sound (by kernel_rfl) ?_ | refine W_ifE fun A B hAx hBx => ?_); refine evT ?_; (first | refine hGx _ ?_ | refine hNx _ ?_ | refine hAx ?_ | refine hBx ?_ | skip)))); (try clear fs))
      refine ⟨hil, hdf2, k2, k3, k7, k25, k26, rfl, hle2, M3, S3, q3, ob3, hHm3, hM3, hgk3, hne3, hS3, fun j h2 hj => ?_, hmu3⟩
      by_cases hji : j = i
      · subst hji; rw [← hy]; exact hyS
      · exact hsu j h2 (by omega)
    have hl2 : trueB S3 y = none := if_neg hyS
    rw [hl2] at hlk3
    (have fs := And.intro k2 (And.intro k7 (And.intro k25 (And.intro k26 (And.intro k27 (And.intro @i64.eq_1 (And.intro p1 (And.intro hgi (And.intro hx2 (And.intro h00 (And.intro hil (And.intro hml (And.intro hHm3 hlk3)))))))))))); (repeat (first | refine hGx _ ?_ | refine hNx _ ?_ | refine W_skip ?_ | refine W_exit ?_ | refine W_ret ?_ | refine W_label ?_ | refine W_scope ?_ | refine W_block ?_ | refine W_seq ?_ | ((first | refine tS fun N hNx => ?_ | refine WL_gE rfl rfl (by kernel_rfl) (by kernel_rfl) fun G hGx => ?_ | refine vcOpsS_sound (by kernel_rfl) ?_ | refine W_ifE fun A B hAx hBx => ?_); refine evT ?_; (first | refine hGx _ ?_ | refine hNx _ ?_ | refine hAx ?_ | refine hBx ?_ | skip)))); (try clear fs))
    refine ⟨hky, ?_⟩
    (have fs := And.intro k2 (And.intro k7 (And.intro @i64.eq_1 hHm3)); (repeat (first | refine hGx _ ?_ | refine hNx _ ?_ | refine W_skip ?_ | refine W_exit ?_ | refine W_ret ?_ | refine W_label ?_ | refine W_scope ?_ | refine W_block ?_ | refine W_seq ?_ | ((first | refine tS fun N hNx => ?_ | refine WL_gE rfl rfl (by kernel_rfl) (by kernel_rfl) fun G hGx => ?_ | refine vcOpsS_sound (by kernel_rfl) ?_ | refine W_ifE fun A B hAx hBx => ?_); refine evT ?_; (first | refine hGx _ ?_ | refine hNx _ ?_ | refine hAx ?_ | refine hBx ?_ | skip)))); (try clear fs))
    refine ⟨hky, ?_⟩
    have hMy : IntM (mset M3 (.int .i64 y) (.val (.bool true))) (trueB (y :: S3)) := (hM3.set hy64 (.val (.bool true))).congr (trueB_cons y S3)
    have hlk4 := mget_mset_same M3 (.int .i64 y) (.val (.bool true))
    obtain ⟨M4, hM4⟩ : ∃ M4, M4 = mset M3 (.int .i64 y) (.val (.bool true)) := ⟨_, rfl⟩
    rw [← hM4] at hMy hlk4 ⊢
    have hm4 : (s2.H.upd bm (.map M4)) bm = some (.map M4) := Heap.upd_same _ _ _
    have hle4 : H.le (s2.H.upd bm (.map M4)) := Heap.le_put hle2 hbm
    by_cases hyt : y = t
    · have p2 : (y = t) = True := eq_true hyt
      rw [hyt] at hlk4
      have hkt := hMy.ok (P := Try.prog) Try.underlying3 ht64
      have hv : true = reaB b.g a t := (reaB_t.2 (hyt ▸ hxr y hyF)).symm
      (have fs := And.intro k2 (And.intro k7 (And.intro @i64.eq_1 (And.intro p2 (And.intro hm4 hlk4)))); (repeat (first | refine hGx _ ?_ | refine hNx _ ?_ | refine W_skip ?_ | refine W_exit ?_ | refine W_ret ?_ | refine W_label ?_ | refine W_scope ?_ | refine W_block ?_ | refine W_seq ?_ | ((first | refine tS fun N hNx => ?_ | refine WL_gE rfl rfl (by kernel_rfl) (by kernel_rfl) fun G hGx => ?_ | refine vcOpsS_sound (by kernel_rfl) ?_ | refine W_ifE fun A B hAx hBx => ?_); refine evT ?_; (first | refine hGx _ ?_ | refine hNx _ ?_ | refine hAx ?_ | refine hBx ?_ | skip)))); (try clear fs))
      refine ⟨hkt, ?_⟩
      (have fs := @i64.eq_1; (repeat (first | refine hGx _ ?_ | refine hNx _ ?_ | refine W_skip ?_ | refine W_exit ?_ | refine W_ret ?_ | refine W_label ?_ | refine W_scope ?_ | refine W_block ?_ | refine W_seq ?_ | ((first | refine tS fun N hNx => ?_ | refine WL_gE rfl rfl (by kernel_rfl) (by kernel_rfl) fun G hGx => ?_ | refine vcOpsS_sound (by kernel_rfl) ?_ | refine W_ifE fun A B hAx hBx => ?_); refine evT ?_; (first | refine hGx _ ?_ | refine hNx _ ?_ | refine hAx ?_ | refine hBx ?_ | skip)))); (try clear fs))
      (first | (show Q .ret _) | (show Q .normal _) | skip); refine hret _ _ (by first | exact .inr rfl | exact .inl rfl) (by first | rfl | assumption | (simp only [put_df, withH_df]; assumption)) ?_; have fs := hdf2; refine evT ?_; clear fs
      exact ⟨_, Heap.le_refl _, hle4, _, frz_refl hle4, by rw [← hv]⟩
    have p2 : (y = t) = False := eq_false hyt
    have hgk4 : Gk H 3 1 (q3.map iD) (s2.fr 8) (s2.H.upd bm (.map M4)) ob3 := hgk3.keep fun c' hc' => Heap.upd_ne fun e => hne3 (by rw [hc', e])
    have hnd : (y :: S3).Nodup := List.nodup_cons.2 ⟨hyS, hS3.nd⟩
    have hrea : ∀ z ∈ y :: S3, Rea b.g a z := fun z hz => by
      rcases List.mem_cons.1 hz with rfl | hz
      · exact hxr _ hyF
      · exact hS3.rea z hz
    have hle5 := nodup_le hnd fun z hz => (hrea z hz).lt.2
    rw [Int.toNat_natCast] at hle5
    (have fs := And.intro k2 (And.intro @i64.eq_1 p2); (repeat (first | refine hGx _ ?_ | refine hNx _ ?_ | refine W_skip ?_ | refine W_exit ?_ | refine W_ret ?_ | refine W_label ?_ | refine W_scope ?_ | refine W_block ?_ | refine W_seq ?_ | ((first | refine tS fun N hNx => ?_ | refine WL_gE rfl rfl (by kernel_rfl) (by kernel_rfl) fun G hGx => ?_ | refine vcOpsS_sound (by kernel_rfl) ?_ | refine W_ifE fun A B hAx hBx => ?_); refine evT ?_; (first | refine hGx _ ?_ | refine hNx _ ?_ | refine hAx ?_ | refine hBx ?_ | skip)))); (try clear fs))
    refine apV_growK (e := 3) ty43 rfl ty43 rfl ty3 rfl (by decide) hle4 hgk4 (new := [iD y]) (by exact ⟨rfl, rfl⟩) (by rw [List.length_map]; show (_ + 1) * 8 ≤ _; omega) fun d H6 ob6 hg6 hle6 hp6 => ?_
    have hm6 := hp6 _ _ hm4 hne3
    rw [show [iD y] = [y].map iD from rfl, ← List.map_append] at hg6
    (have fs := And.intro k27 (And.intro @i64.eq_1 w3); (repeat (first | refine hGx _ ?_ | refine hNx _ ?_ | refine W_skip ?_ | refine W_exit ?_ | refine W_ret ?_ | refine W_label ?_ | refine W_scope ?_ | refine W_block ?_ | refine W_seq ?_ | ((first | refine tS fun N hNx => ?_ | refine WL_gE rfl rfl (by kernel_rfl) (by kernel_rfl) fun G hGx => ?_ | refine vcOpsS_sound (by kernel_rfl) ?_ | refine W_ifE fun A B hAx hBx => ?_); refine evT ?_; (first | refine hGx _ ?_ | refine hNx _ ?_ | refine hAx ?_ | refine hBx ?_ | skip)))); (try clear fs))
    refine ⟨hil, hdf2, k2, k3, k7, k25, k26, rfl, hle6, M4, y :: S3, q3 ++ [y], ob6, hm6.1, hMy, Gk.of hg6, hm6.2, ⟨hnd, hrea, ?_, ?_, ?_⟩, ?_, ?_⟩
    · intro h
      rcases List.mem_cons.1 h with e | h
      · exact hyt e.symm
      · exact hS3.nt h
    · intro z hz
      rcases List.mem_append.1 hz with hz | hz
      · exact (hS3.qs z hz).imp (List.mem_cons_of_mem _) id
      · rw [List.mem_singleton] at hz; subst hz; exact .inl List.mem_cons_self
    · intro z hz hzq hzx y' hy'
      have hz2 : z ∈ S3 ∨ z = a := by
        rcases hz with hz | hz
        · rcases List.mem_cons.1 hz with e | hz
          · exact absurd (by simp [e]) hzq
          · exact .inl hz
        · exact .inr hz
      exact List.mem_cons_of_mem _ (hS3.cl z hz2 (fun h => hzq (List.mem_append.2 (.inl h))) hzx y' hy')
    · intro j h2 hj
      by_cases hji : j = i
      · subst hji; rw [← hy]; exact List.mem_cons_self
      · exact List.mem_cons_of_mem _ (hsu j h2 (by omega))
    · rw [List.length_append, List.length_cons, List.length_singleton] at *
      omega
end Go.Proofs.Ytdbeimlancnncaa
/- The reference of chapter 11: Reaches; slices.Equal of pairs. -/
namespace Go.Proofs.Ytdbeimlancnncaa
open Go.RowKit
set_option linter.unusedVariables false
set_option maxRecDepth 100000
set_option linter.unusedSimpArgs false
theorem eqTy_pair : EqTy Try.prog 25 [false, false] := eqTy_arr2 (e := 3) (by kernel_rfl) (i := (Try.prog.info? 3).get!) (by kernel_rfl) (by kernel_rfl) (by kernel_rfl) ⟨by kernel_rfl, by kernel_rfl⟩
theorem get_prs {l : List (Int × Int)} {i : Nat} (h : i < l.length) : (l.map pD)[i]? = some [.val (.int .i64 l[i].1), .val (.int .i64 l[i].2)] := by
  rw [List.getElem?_map, List.getElem?_eq_getElem h]; rfl
def EqP (l m : List (Int × Int)) (i : Nat) (s : St) : Prop := s.df = [] ∧ s.fr 0 = .seq 2 (l.map pD) ∧ s.fr 1 = .seq 2 (m.map pD) ∧ s.fr 12 = i64 l.length ∧ s.fr 13 = i64 i ∧ s.H = Heap.none ∧ l.take i = m.take i
theorem equalP_N (l m : List (Int × Int)) (hl : l.length ≤ 140737488351232) : Does Try.prog 20 [.seq 2 (l.map pD), .seq 2 (m.map pD)] .none fun d _ => d = .val (.bool (decide (l = m))) := by
  have hll : (List.map pD l).length = l.length := List.length_map _
  have hml : (List.map pD m).length = m.length := List.length_map _
  have hET := eq_true eqTy_pair
  refine does_of _ _ Try.func20 rfl rfl Try.ntmps20 Try.results20 (by simp only [List.length_cons, List.length_nil]; omega) fun w0 Q hret => ?_
  by_cases hlm : l.length = m.length
  case neg =>
    have q : ((l.length : Int) = (m.length : Int)) = False := eq_false (by omega)
    (have fs := And.intro @i64.eq_1 (And.intro hll (And.intro hml q)); (repeat (first | refine hGx _ ?_ | refine hNx _ ?_ | refine W_skip ?_ | refine W_exit ?_ | refine W_ret ?_ | refine W_label ?_ | refine W_scope ?_ | refine W_block ?_ | refine W_seq ?_ | ((first | refine tS fun N hNx => ?_ | refine WL_gE rfl rfl (by kernel_rfl) (by kernel_rfl) fun G hGx => ?_ | refine vcOpsS_sound (by kernel_rfl) ?_ | refine W_ifE fun A B hAx hBx => ?_); refine evT ?_; (first | refine hGx _ ?_ | refine hNx _ ?_ | refine hAx ?_ | refine hBx ?_ | skip)))); (try clear fs))
    (first | (show Q .ret _) | (show Q .normal _) | skip); refine hret _ _ (by first | exact .inr rfl | exact .inl rfl) (by first | rfl | assumption | (simp only [put_df, withH_df]; assumption)) ?_; have fs := @i64.eq_1; refine evT ?_; clear fs
    exact ⟨_, Heap.le_refl _, by rw [decide_eq_false fun e => hlm (by rw [e])]⟩
  have q : ((l.length : Int) = (m.length : Int)) = True := eq_true (by omega)
  have hmm : (m.length : Int) = (l.length : Int) := by omega
  (have fs := And.intro @i64.eq_1 (And.intro hll (And.intro hml q)); (repeat (first | refine hGx _ ?_ | refine hNx _ ?_ | refine W_skip ?_ | refine W_exit ?_ | refine W_ret ?_ | refine W_label ?_ | refine W_scope ?_ | refine W_block ?_ | refine W_seq ?_ | ((first | refine tS fun N hNx => ?_ | refine WL_gE rfl rfl (by kernel_rfl) (by kernel_rfl) fun G hGx => ?_ | refine vcOpsS_sound (by kernel_rfl) ?_ | refine W_ifE fun A B hAx hBx => ?_); refine evT ?_; (first | refine hGx _ ?_ | refine hNx _ ?_ | refine hAx ?_ | refine hBx ?_ | skip)))); (try clear fs))
  refine W_loopN l.length (EqP l m) ⟨rfl, rfl, rfl, rfl, rfl, rfl, by simp⟩ ?_
  rintro i s hi ⟨hdf, f0, f1, f12, f13, hH, htk⟩
  have hx : (i : Int).toNat = i := Int.toNat_natCast _
  have h00 : (0 : Int) ≤ (i : Int) := Int.natCast_nonneg _
  by_cases hil : i < l.length
  case neg =>
    have q1 : ((i : Int) < (l.length : Int)) = False := eq_false (by omega)
    rw [List.take_of_length_le (by omega), List.take_of_length_le (by omega)] at htk
    (have fs := And.intro f12 (And.intro f13 (And.intro @i64.eq_1 q1)); (repeat (first | refine hGx _ ?_ | refine hNx _ ?_ | refine W_skip ?_ | refine W_exit ?_ | refine W_ret ?_ | refine W_label ?_ | refine W_scope ?_ | refine W_block ?_ | refine W_seq ?_ | ((first | refine tS fun N hNx => ?_ | refine WL_gE rfl rfl (by kernel_rfl) (by kernel_rfl) fun G hGx => ?_ | refine vcOpsS_sound (by kernel_rfl) ?_ | refine W_ifE fun A B hAx hBx => ?_); refine evT ?_; (first | refine hGx _ ?_ | refine hNx _ ?_ | refine hAx ?_ | refine hBx ?_ | skip)))); (try clear fs))
    (first | (show Q .ret _) | (show Q .normal _) | skip); refine hret _ _ (by first | exact .inr rfl | exact .inl rfl) (by first | rfl | assumption | (simp only [put_df, withH_df]; assumption)) ?_; have fs := hdf; refine evT ?_; clear fs
    exact ⟨_, Heap.le_refl _, by rw [decide_eq_true htk]⟩
  have q1 : ((i : Int) < (l.length : Int)) = True := eq_true (by omega)
  have him : i < m.length := by omega
  have hgi := get_prs hil
  have hgm := get_prs him
  have w3 : IntKind.i64.wrap ((i : Int) + 1) = ((i + 1 : Nat) : Int) := by rw [wrap_i64_of (by omega)]; omega
  have hne : l[i] ≠ m[i] → decide (l = m) = false := fun h => decide_eq_false (by rintro rfl; exact h rfl)
  by_cases h2 : l[i].1 = m[i].1
  · have q2 : (l[i].1 = m[i].1) = True := eq_true h2
    by_cases h3 : l[i].2 = m[i].2
    · have q3 : (l[i].2 = m[i].2) = True := eq_true h3
      (have fs := And.intro f12 (And.intro f13 (And.intro @i64.eq_1 q1)); (repeat (first | refine hGx _ ?_ | refine hNx _ ?_ | refine W_skip ?_ | refine W_exit ?_ | refine W_ret ?_ | refine W_label ?_ | refine W_scope ?_ | refine W_block ?_ | refine W_seq ?_ | ((first | refine tS fun N hNx => ?_ | refine WL_gE rfl rfl (by kernel_rfl) (by kernel_rfl) fun G hGx => ?_ | refine vcOpsS_sound (by kernel_rfl) ?_ | refine W_ifE fun A B hAx hBx => ?_); refine evT ?_; (first | refine hGx _ ?_ | refine hNx _ ?_ | refine hAx ?_ | refine hBx ?_ | skip)))); (try clear fs))
      refine W_drawE (fun _ _ _ _ => False) (by kernel_rfl) (by kernel_rfl) (by kernel_rfl) fun N hNx => ?_; (have fs := And.intro f0 (And.intro f1 (And.intro @i64.eq_1 (And.intro hll (And.intro hml (And.intro hgi (And.intro hgm (And.intro hx (And.intro h00 (And.intro hil (And.intro him (And.intro q2 (And.intro q3 (And.intro hET (And.intro @Bool.and_true @Bool.not_true)))))))))))))); (repeat ((first | refine vcD_g rfl rfl fun G hGx => ?_ | refine vcDS_to ?_); refine evD ?_; (first | refine hGx _ ?_ | refine hNx _ ?_ | skip))); (try clear fs))
      (have fs := And.intro f13 (And.intro @i64.eq_1 (And.intro w3 q2)); (repeat (first | refine hGx _ ?_ | refine hNx _ ?_ | refine W_skip ?_ | refine W_exit ?_ | refine W_ret ?_ | refine W_label ?_ | refine W_scope ?_ | refine W_block ?_ | refine W_seq ?_ | ((first | refine tS fun N hNx => ?_ | refine WL_gE rfl rfl (by kernel_rfl) (by kernel_rfl) fun G hGx => ?_ | refine vcOpsS_sound (by kernel_rfl) ?_ | refine W_ifE fun A B hAx hBx => ?_); refine evT ?_; (first | refine hGx _ ?_ | refine hNx _ ?_ | refine hAx ?_ | refine hBx ?_ | skip)))); (try clear fs))
      refine ⟨hil, hdf, f0, f1, f12, rfl, hH, ?_⟩
      rw [List.take_succ_eq_append_getElem hil, List.take_succ_eq_append_getElem him, htk, Prod.ext h2 h3]
    · have q3 : (l[i].2 = m[i].2) = False := eq_false h3
      (have fs := And.intro f12 (And.intro f13 (And.intro @i64.eq_1 q1)); (repeat (first | refine hGx _ ?_ | refine hNx _ ?_ | refine W_skip ?_ | refine W_exit ?_ | refine W_ret ?_ | refine W_label ?_ | refine W_scope ?_ | refine W_block ?_ | refine W_seq ?_ | ((first | refine tS fun N hNx => ?_ | refine WL_gE rfl rfl (by kernel_rfl) (by kernel_rfl) fun G hGx => ?_ | refine vcOpsS_sound (by kernel_rfl) ?_ | refine W_ifE fun A B hAx hBx => ?_); refine evT ?_; (first | refine hGx _ ?_ | refine hNx _ ?_ | refine hAx ?_ | refine hBx ?_ | skip)))); (try clear fs))
      refine W_drawE (fun _ _ _ _ => False) (by kernel_rfl) (by kernel_rfl) (by kernel_rfl) fun N hNx => ?_; (have fs := And.intro f0 (And.intro f1 (And.intro @i64.eq_1 (And.intro hll (And.intro hml (And.intro hgi (And.intro hgm (And.intro hx (And.intro h00 (And.intro hil (And.intro him (And.intro q2 (And.intro q3 (And.intro hET (And.intro @Bool.and_true (And.intro @Bool.and_false @Bool.not_false))))))))))))))); (repeat ((first | refine vcD_g rfl rfl fun G hGx => ?_ | refine vcDS_to ?_); refine evD ?_; (first | refine hGx _ ?_ | refine hNx _ ?_ | skip))); (try clear fs))
      (have fs := And.intro f13 (And.intro @i64.eq_1 (And.intro w3 q2)); (repeat (first | refine hGx _ ?_ | refine hNx _ ?_ | refine W_skip ?_ | refine W_exit ?_ | refine W_ret ?_ | refine W_label ?_ | refine W_scope ?_ | refine W_block ?_ | refine W_seq ?_ | ((first | refine tS fun N hNx => ?_ | refine WL_gE rfl rfl (by kernel_rfl) (by kernel_rfl) fun G hGx => ?_ | refine vcOpsS_sound (by kernel_rfl) ?_ | refine W_ifE fun A B hAx hBx => ?_); refine evT ?_; (first | refine hGx _ ?_ | refine hNx _ ?_ | refine hAx ?_ | refine hBx ?_ | skip)))); (try clear fs))
      (first | (show Q .ret _) | (show Q .normal _) | skip); refine hret _ _ (by first | exact .inr rfl | exact .inl rfl) (by first | rfl | assumption | (simp only [put_df, withH_df]; assumption)) ?_; have fs := hdf; refine evT ?_; clear fs
      exact ⟨_, Heap.le_refl _, by rw [hne fun h => h3 (by rw [h])]⟩
  · have q2 : (l[i].1 = m[i].1) = False := eq_false h2
    (have fs := And.intro f12 (And.intro f13 (And.intro @i64.eq_1 q1)); (repeat (first | refine hGx _ ?_ | refine hNx _ ?_ | refine W_skip ?_ | refine W_exit ?_ | refine W_ret ?_ | refine W_label ?_ | refine W_scope ?_ | refine W_block ?_ | refine W_seq ?_ | ((first | refine tS fun N hNx => ?_ | refine WL_gE rfl rfl (by kernel_rfl) (by kernel_rfl) fun G hGx => ?_ | refine vcOpsS_sound (by kernel_rfl) ?_ | refine W_ifE fun A B hAx hBx => ?_); refine evT ?_; (first | refine hGx _ ?_ | refine hNx _ ?_ | refine hAx ?_ | refine hBx ?_ | skip)))); (try clear fs))
    refine W_drawE (fun _ _ _ _ => False) (by kernel_rfl) (by kernel_rfl) (by kernel_rfl) fun N hNx => ?_; (have fs := And.intro f0 (And.intro f1 (And.intro @i64.eq_1 (And.intro hll (And.intro hml (And.intro hgi (And.intro hgm (And.intro hx (And.intro h00 (And.intro hil (And.intro him (And.intro q2 (And.intro hET (And.intro @Bool.false_and @Bool.not_false))))))))))))); (repeat ((first | refine vcD_g rfl rfl fun G hGx => ?_ | refine vcDS_to ?_); refine evD ?_; (first | refine hGx _ ?_ | refine hNx _ ?_ | skip))); (try clear fs))
    (have fs := And.intro f13 (And.intro @i64.eq_1 (And.intro w3 q2)); (repeat (first | refine hGx _ ?_ | refine hNx _ ?_ | refine W_skip ?_ | refine W_exit ?_ | refine W_ret ?_ | refine W_label ?_ | refine W_scope ?_ | refine W_block ?_ | refine W_seq ?_ | ((first | refine tS fun N hNx => ?_ | refine WL_gE rfl rfl (by kernel_rfl) (by kernel_rfl) fun G hGx => ?_ | refine vcOpsS_sound (by kernel_rfl) ?_ | refine W_ifE fun A B hAx hBx => ?_); refine evT ?_; (first | refine hGx _ ?_ | refine hNx _ ?_ | refine hAx ?_ | refine hBx ?_ | skip)))); (try clear fs))
    (first | (show Q .ret _) | (show Q .normal _) | skip); refine hret _ _ (by first | exact .inr rfl | exact .inl rfl) (by first | rfl | assumption | (simp only [put_df, withH_df]; assumption)) ?_; have fs := hdf; refine evT ?_; clear fs
    exact ⟨_, Heap.le_refl _, by rw [hne fun h => h2 (by rw [h])]⟩
theorem equalP_at (H : Heap) (l m : List (Int × Int)) (hl : l.length ≤ 140737488351232) : Does Try.prog 20 [.seq 2 (l.map pD), .seq 2 (m.map pD)] H fun d H' => d = .val (.bool (decide (l = m))) ∧ H = H' :=
  pure_D (equalP_N l m hl) rfl (vws2 (vw_refl _ _) (vw_refl _ _))
open Classical in
/-- What has been seen. -/
noncomputable def snR (S : List Int) (n : Nat) : List (List D) := (List.range n).map fun (x : Nat) => [.val (.bool (decide ((x : Int) ∈ S)))]
theorem snR_len (S : List Int) (n : Nat) : (snR S n).length = n := by unfold snR; simp
theorem snR_nil (n : Nat) : snR [] n = List.replicate n [.val (.bool false)] := by
  unfold snR
  refine List.ext_getElem (by simp) fun i h1 h2 => ?_
  simp
theorem snR_t {S : List Int} {n i : Nat} (h : i < n) (hm : (i : Int) ∈ S) : (snR S n)[i]? = some [.val (.bool true)] := by
  unfold snR
  rw [List.getElem?_map, List.getElem?_range h]
  simp [hm]
theorem snR_f {S : List Int} {n i : Nat} (h : i < n) (hm : (i : Int) ∉ S) : (snR S n)[i]? = some [.val (.bool false)] := by
  unfold snR
  rw [List.getElem?_map, List.getElem?_range h]
  simp [hm]
theorem snR_set {S : List Int} {n i : Nat} : (snR S n).set i [.val (.bool true)] = snR ((i : Int) :: S) n := by
  unfold snR
  refine List.ext_getElem (by simp) fun j h1 h2 => ?_
  rw [List.getElem_set]
  simp only [List.getElem_map, List.getElem_range]
  by_cases h : i = j
  · subst h; simp
  · rw [if_neg h]
    have : (j : Int) ≠ i := by omega
    simp [this]
/-- What the reference's search knows: the list so far, how much of it is done, what has been seen. -/
structure KrP (G : Gr) (a : Int) (L S : List Int) (i : Nat) : Prop where
  nd : S.Nodup
  rea : ∀ x ∈ L, Rea G a x
  sub : ∀ x ∈ S, x ∈ L
  dn : ∀ (j : Nat) (h : j < L.length), j < i → L[j] ∈ S
  st : ∀ x, Fol G a x → x ∈ L
  cl : ∀ x ∈ S, ∀ y, Fol G x y → y ∈ L
  le : L.length ≤ (S.length + 1) * cntG G
theorem KrP.bound {G : Gr} {a : Int} {L S : List Int} {i : Nat} (h : KrP G a L S i) (hc : cntG G ≤ 1000000) : S.length ≤ cntG G ∧ L.length ≤ (cntG G + 1) * cntG G ∧ (cntG G + 1) * cntG G ≤ 1000001 * 1000000 := by
  have h1 := nodup_le (n := (cntG G : Int)) h.nd fun x hx => (h.rea x (h.sub x hx)).lt.2
  rw [Int.toNat_natCast] at h1
  refine ⟨h1, Nat.le_trans h.le (Nat.mul_le_mul_right _ (by omega)), Nat.mul_le_mul (by omega) hc⟩
theorem KrP.fin {G : Gr} {a : Int} {L S : List Int} (h : KrP G a L S L.length) {t : Int} : t ∈ S ↔ Rea G a t := by
  have hLS : ∀ x ∈ L, x ∈ S := fun x hx => by
    obtain ⟨j, hj, rfl⟩ := List.getElem_of_mem hx
    exact h.dn j hj hj
  constructor
  · intro ht; exact h.rea t (h.sub t ht)
  · intro hr
    exact rea_closed (fun x hx => hLS x (h.st x hx)) (fun x hx y hy => hLS y (h.cl x hx y hy)) hr
set_option maxHeartbeats 1000000 in
theorem kreach_N (b : GBdy) (a t : Int) (H : Heap) (hc : cntG b.g ≤ 1000000) (hta : ∀ x ∈ b.bl, x.tg.length ≤ 1000000) (ha64 : I64 a) (ht64 : I64 t) : Does Try.prog 24 [.agg (gbdD b), i64 a, i64 t] H fun d H' => d = .val (.bool (reaB b.g a t)) ∧ H = H' := by
  refine Does.frz (K := fun d => d = .val (.bool (reaB b.g a t))) ?_
  unfold I64 at ha64 ht64
  refine does_of _ _ Try.func24 rfl rfl Try.ntmps24 Try.results24 (by simp only [List.length_cons, List.length_nil]; omega) fun w0 Q hret => ?_
  (have fs := And.intro @i64.eq_1 @gbdD.eq_1; (repeat (first | refine hGx _ ?_ | refine hNx _ ?_ | refine W_skip ?_ | refine W_exit ?_ | refine W_ret ?_ | refine W_label ?_ | refine W_scope ?_ | refine W_block ?_ | refine W_seq ?_ | ((first | refine tS fun N hNx => ?_ | refine WL_gE rfl rfl (by kernel_rfl) (by kernel_rfl) fun G hGx => ?_ | refine vcOpsS_sound (by kernel_rfl) ?_ | refine W_ifE fun A B hAx hBx => ?_); refine evT ?_; (first | refine hGx _ ?_ | refine hNx _ ?_ | refine hAx ?_ | refine hBx ?_ | skip)))); (try clear fs))
  intro c3 hc3
  refine hNx _ ?_
  refine W_frzp 3 rfl (Heap.upd_same _ _ _) rfl ?_; simp only [St.frzp, put_H, wdf_H, withH_H, withH_put, wdf_withH, withH_withH, init_H, init_withH, Heap.del_upd_same, Heap.del_none hc3, withH_self]
  by_cases ht0 : t < 0
  · have q1 : (t < 0) = True := eq_true ht0
    have e : false = reaB b.g a t := (reaB_f.2 fun h => by have := h.lt; omega).symm
    (have fs := And.intro @i64.eq_1 q1; (repeat (first | refine hGx _ ?_ | refine hNx _ ?_ | refine W_skip ?_ | refine W_exit ?_ | refine W_ret ?_ | refine W_label ?_ | refine W_scope ?_ | refine W_block ?_ | refine W_seq ?_ | ((first | refine tS fun N hNx => ?_ | refine WL_gE rfl rfl (by kernel_rfl) (by kernel_rfl) fun G hGx => ?_ | refine vcOpsS_sound (by kernel_rfl) ?_ | refine W_ifE fun A B hAx hBx => ?_); refine evT ?_; (first | refine hGx _ ?_ | refine hNx _ ?_ | refine hAx ?_ | refine hBx ?_ | skip)))); (try clear fs))
    (first | (show Q .ret _) | (show Q .normal _) | skip); refine hret _ _ (by first | exact .inr rfl | exact .inl rfl) (by first | rfl | assumption | (simp only [put_df, withH_df]; assumption)) ?_; have fs := @i64.eq_1; refine evT ?_; clear fs
    exact ⟨_, Heap.le_refl _, Heap.le_refl _, _, frz_refl (Heap.le_refl _), by rw [← e]⟩
  obtain ⟨tn, rfl⟩ : ∃ tn : Nat, t = tn := ⟨t.toNat, by omega⟩
  have q1 : ((tn : Int) < 0) = False := eq_false ht0
  have htx : (tn : Int).toNat = tn := Int.toNat_natCast _
  have ht00 : (0 : Int) ≤ (tn : Int) := Int.natCast_nonneg _
  (have fs := And.intro @i64.eq_1 q1; (repeat (first | refine hGx _ ?_ | refine hNx _ ?_ | refine W_skip ?_ | refine W_exit ?_ | refine W_ret ?_ | refine W_label ?_ | refine W_scope ?_ | refine W_block ?_ | refine W_seq ?_ | ((first | refine tS fun N hNx => ?_ | refine WL_gE rfl rfl (by kernel_rfl) (by kernel_rfl) fun G hGx => ?_ | refine vcOpsS_sound (by kernel_rfl) ?_ | refine W_ifE fun A B hAx hBx => ?_); refine evT ?_; (first | refine hGx _ ?_ | refine hNx _ ?_ | refine hAx ?_ | refine hBx ?_ | skip)))); (try clear fs))
  refine (kcount_N b _ hc).mono ?_
  rintro d _ ⟨rfl, rfl⟩
  by_cases htc : (tn : Int) < cntG b.g
  case neg =>
    have q2 : ((cntG b.g : Int) ≤ (tn : Int)) = True := eq_true (by omega)
    have e : false = reaB b.g a tn := (reaB_f.2 fun h => by have := h.lt; omega).symm
    (have fs := And.intro @i64.eq_1 q2; refine evT ?_; try clear fs); (first | refine hGx _ ?_ | refine hNx _ ?_ | skip)
    (have fs := And.intro @i64.eq_1 q2; (repeat (first | refine hGx _ ?_ | refine hNx _ ?_ | refine W_skip ?_ | refine W_exit ?_ | refine W_ret ?_ | refine W_label ?_ | refine W_scope ?_ | refine W_block ?_ | refine W_seq ?_ | ((first | refine tS fun N hNx => ?_ | refine WL_gE rfl rfl (by kernel_rfl) (by kernel_rfl) fun G hGx => ?_ | refine vcOpsS_sound (by kernel_rfl) ?_ | refine W_ifE fun A B hAx hBx => ?_); refine evT ?_; (first | refine hGx _ ?_ | refine hNx _ ?_ | refine hAx ?_ | refine hBx ?_ | skip)))); (try clear fs))
    (first | (show Q .ret _) | (show Q .normal _) | skip); refine hret _ _ (by first | exact .inr rfl | exact .inl rfl) (by first | rfl | assumption | (simp only [put_df, withH_df]; assumption)) ?_; have fs := @i64.eq_1; refine evT ?_; clear fs
    exact ⟨_, Heap.le_refl _, Heap.le_refl _, _, frz_refl (Heap.le_refl _), by rw [← e]⟩
  have q2 : ((cntG b.g : Int) ≤ (tn : Int)) = False := eq_false (by omega)
  have hcx : ((cntG b.g : Int)).toNat = cntG b.g := Int.toNat_natCast _
  have hc0 : (0 : Int) ≤ (cntG b.g : Int) := Int.natCast_nonneg _
  (have fs := And.intro @i64.eq_1 q2; refine evT ?_; try clear fs); (first | refine hGx _ ?_ | refine hNx _ ?_ | skip)
  (have fs := And.intro @i64.eq_1 q2; (repeat (first | refine hGx _ ?_ | refine hNx _ ?_ | refine W_skip ?_ | refine W_exit ?_ | refine W_ret ?_ | refine W_label ?_ | refine W_scope ?_ | refine W_block ?_ | refine W_seq ?_ | ((first | refine tS fun N hNx => ?_ | refine WL_gE rfl rfl (by kernel_rfl) (by kernel_rfl) fun G hGx => ?_ | refine vcOpsS_sound (by kernel_rfl) ?_ | refine W_ifE fun A B hAx hBx => ?_); refine evT ?_; (first | refine hGx _ ?_ | refine hNx _ ?_ | refine hAx ?_ | refine hBx ?_ | skip)))); (try clear fs))
  refine (kcount_N b _ hc).mono ?_
  rintro d _ ⟨rfl, rfl⟩
  (have fs := @i64.eq_1; (repeat (first | refine hGx _ ?_ | refine hNx _ ?_ | refine W_skip ?_ | refine W_exit ?_ | refine W_ret ?_ | refine W_label ?_ | refine W_scope ?_ | refine W_block ?_ | refine W_seq ?_ | ((first | refine tS fun N hNx => ?_ | refine WL_gE rfl rfl (by kernel_rfl) (by kernel_rfl) fun G hGx => ?_ | refine vcOpsS_sound (by kernel_rfl) ?_ | refine W_ifE fun A B hAx hBx => ?_); refine evT ?_; (first | refine hGx _ ?_ | refine hNx _ ?_ | refine hAx ?_ | refine hBx ?_ | skip)))); (try clear fs))
  refine ⟨by omega, by omega, by omega, fun c7 hc7 => ?_⟩
  rw [← snR_nil]
  refine hNx _ ?_
  (have fs := @i64.eq_1; (repeat (first | refine hGx _ ?_ | refine hNx _ ?_ | refine W_skip ?_ | refine W_exit ?_ | refine W_ret ?_ | refine W_label ?_ | refine W_scope ?_ | refine W_block ?_ | refine W_seq ?_ | ((first | refine tS fun N hNx => ?_ | refine WL_gE rfl rfl (by kernel_rfl) (by kernel_rfl) fun G hGx => ?_ | refine vcOpsS_sound (by kernel_rfl) ?_ | refine W_ifE fun A B hAx hBx => ?_); refine evT ?_; (first | refine hGx _ ?_ | refine hNx _ ?_ | refine hAx ?_ | refine hBx ?_ | skip)))); (try clear fs))
  refine (knextR_N b a _ hc (by omega) hta).mono ?_
  rintro d H1 ⟨ob1, hg1, hle1⟩
  have hl0 : H.le (H.upd c7 (.row 4 0 1 (snR [] (cntG b.g)))) := Heap.le_put (Heap.le_refl _) hc7
  have h71 := hle1 _ _ (Heap.upd_same H c7 (.row 4 0 1 (snR [] (cntG b.g))))
  have hob1 : ob1 ≠ some c7 := fun e => by
    rcases hg1 with ⟨h, _⟩ | ⟨c, o, h, _, h2, _⟩
    · rw [h] at e; cases e
    · rw [h] at e; injection e with e; rw [e, Heap.upd_same] at h2; cases h2
  have hg1' : Gl H 3 1 ((nxt b.g a).map iD) d H1 ob1 := by
    rcases hg1 with h | ⟨c, o, h1, h2, h3, h4⟩
    · exact .inl h
    · exact .inr ⟨c, o, h1, h2, (Heap.upd_none.1 h3).2, h4⟩
  (have fs := @i64.eq_1; (repeat (first | refine hGx _ ?_ | refine hNx _ ?_ | refine W_skip ?_ | refine W_exit ?_ | refine W_ret ?_ | refine W_label ?_ | refine W_scope ?_ | refine W_block ?_ | refine W_seq ?_ | ((first | refine tS fun N hNx => ?_ | refine WL_gE rfl rfl (by kernel_rfl) (by kernel_rfl) fun G hGx => ?_ | refine vcOpsS_sound (by kernel_rfl) ?_ | refine W_ifE fun A B hAx hBx => ?_); refine evT ?_; (first | refine hGx _ ?_ | refine hNx _ ?_ | refine hAx ?_ | refine hBx ?_ | skip)))); (try clear fs))
  have hkr0 : KrP b.g a (nxt b.g a) [] 0 := ⟨by simp, fun x hx => .one (mem_nxt.1 hx), by simp, by omega, fun x hx => mem_nxt.2 hx, by simp, by have := nxt_len b.g a; simpa using this⟩
  refine W_loopN ((cntG b.g + 1) * cntG b.g) (fun i s => s.df = [] ∧ s.fr 2 = i64 tn ∧ s.fr 3 = .rp (gbdD b) ∧ s.fr 7 = .os c7 0 1 0 (cntG b.g) ∧ s.fr 9 = i64 i ∧ H.le s.H ∧ ∃ L S ob, s.H c7 = some (.row 4 0 1 (snR S (cntG b.g))) ∧ Gl H 3 1 (L.map iD) (s.fr 8) s.H ob ∧ ob ≠ some c7 ∧ KrP b.g a L S i ∧ i ≤ L.length) ⟨rfl, rfl, rfl, rfl, rfl, Heap.le_trans hl0 hle1, _, [], ob1, h71, hg1', hob1, hkr0, Nat.zero_le _⟩ ?_
  rintro i s hi ⟨hdf, f2, f3, f7, f9, hle, L, S, ob, h7, hg, hob, hkr, hiL⟩
  simp only [gbdD] at f3
  obtain ⟨bd1, bd2, bd3⟩ := hkr.bound hc
  have hx : (i : Int).toNat = i := Int.toNat_natCast _
  have h00 : (0 : Int) ≤ (i : Int) := Int.natCast_nonneg _
  by_cases hil : i < L.length
  case neg =>
    have hie : i = L.length := by omega
    subst hie
    have q3 : ((L.length : Int) < (L.length : Int)) = False := eq_false (by omega)
    have htn : tn < cntG b.g := by omega
    have hres : (snR S (cntG b.g))[tn]? = some [.val (.bool (reaB b.g a tn))] := by
      by_cases hm : (tn : Int) ∈ S
      · rw [snR_t htn hm, reaB_t.2 (hkr.fin.1 hm)]
      · rw [snR_f htn hm, reaB_f.2 fun h => hm (hkr.fin.2 h)]
    have hlen : (∃ c o, s.fr 8 = .os c o 1 0 L.length) ∨ (s.fr 8 = .val (.slice none 0 0) ∧ L.length = 0) := by
      rcases hg with ⟨_, h1, h2⟩ | ⟨c, o, _, h1, _⟩
      · exact .inr ⟨h1, by simpa using h2⟩
      · exact .inl ⟨c, o, by rw [h1, List.length_map]⟩
    rcases hlen with ⟨c, o, f8⟩ | ⟨f8, hL0⟩
    · (have fs := And.intro f2 (And.intro f7 (And.intro f8 (And.intro f9 (And.intro @i64.eq_1 (And.intro q3 (And.intro h7 (And.intro hres (And.intro htx (And.intro ht00 htc))))))))); (repeat (first | refine hGx _ ?_ | refine hNx _ ?_ | refine W_skip ?_ | refine W_exit ?_ | refine W_ret ?_ | refine W_label ?_ | refine W_scope ?_ | refine W_block ?_ | refine W_seq ?_ | ((first | refine tS fun N hNx => ?_ | refine WL_gE rfl rfl (by kernel_rfl) (by kernel_rfl) fun G hGx => ?_ | refine vcOpsS_sound (by kernel_rfl) ?_ | refine W_ifE fun A B hAx hBx => ?_); refine evT ?_; (first | refine hGx _ ?_ | refine hNx _ ?_ | refine hAx ?_ | refine hBx ?_ | skip)))); (try clear fs))
      (first | (show Q .ret _) | (show Q .normal _) | skip); refine hret _ _ (by first | exact .inr rfl | exact .inl rfl) (by first | rfl | assumption | (simp only [put_df, withH_df]; assumption)) ?_; have fs := hdf; refine evT ?_; clear fs
      exact ⟨_, Heap.le_refl _, hle, _, frz_refl hle, rfl⟩
    · have q4 : ((L.length : Int) < 0) = False := eq_false (by omega)
      (have fs := And.intro f2 (And.intro f7 (And.intro f8 (And.intro f9 (And.intro @i64.eq_1 (And.intro q4 (And.intro h7 (And.intro hres (And.intro htx (And.intro ht00 htc))))))))); (repeat (first | refine hGx _ ?_ | refine hNx _ ?_ | refine W_skip ?_ | refine W_exit ?_ | refine W_ret ?_ | refine W_label ?_ | refine W_scope ?_ | refine W_block ?_ | refine W_seq ?_ | ((first | refine tS fun N hNx => ?_ | refine WL_gE rfl rfl (by kernel_rfl) (by kernel_rfl) fun G hGx => ?_ | refine vcOpsS_sound (by kernel_rfl) ?_ | refine W_ifE fun A B hAx hBx => ?_); refine evT ?_; (first | refine hGx _ ?_ | refine hNx _ ?_ | refine hAx ?_ | refine hBx ?_ | skip)))); (try clear fs))
      (first | (show Q .ret _) | (show Q .normal _) | skip); refine hret _ _ (by first | exact .inr rfl | exact .inl rfl) (by first | rfl | assumption | (simp only [put_df, withH_df]; assumption)) ?_; have fs := hdf; refine evT ?_; clear fs
      exact ⟨_, Heap.le_refl _, hle, _, frz_refl hle, rfl⟩
  have q3 : ((i : Int) < (L.length : Int)) = True := eq_true (by omega)
  have hil' : (i : Int) < (L.length : Int) := by omega
  have hgi := get_ints hil
  have hxL := List.getElem_mem hil
  obtain ⟨x, hxe⟩ : ∃ x, x = L[i] := ⟨_, rfl⟩
  rw [← hxe] at hgi hxL
  have hxr := hkr.rea x hxL
  have hxlt := hxr.lt.2
  obtain ⟨xn, rfl⟩ : ∃ xn : Nat, x = xn := ⟨x.toNat, by omega⟩
  have hxx : (xn : Int).toNat = xn := Int.toNat_natCast _
  have hx00 : (0 : Int) ≤ (xn : Int) := Int.natCast_nonneg _
  have hxc : xn < cntG b.g := by omega
  have hxc' : (xn : Int) < (cntG b.g : Int) := hxlt.2
  obtain ⟨c, o, hobc, f8, hc0, hHc⟩ : ∃ c o, ob = some c ∧ s.fr 8 = .os c o 1 0 L.length ∧ H c = none ∧ s.H c = some (.row 3 o 1 (L.map iD)) := by
    rcases hg with ⟨_, _, h2⟩ | ⟨c, o, h0, h1, h2, h3⟩
    · have : L = [] := by simpa using h2
      rw [this] at hil; simp at hil
    · exact ⟨c, o, h0, by rw [h1, List.length_map], h2, h3⟩
  have hc7n : c ≠ c7 := fun e => hob (by rw [hobc, e])
  have w3 : IntKind.i64.wrap ((i : Int) + 1) = ((i + 1 : Nat) : Int) := by rw [wrap_i64_of (by omega)]; omega
  by_cases hxS : (xn : Int) ∈ S
  · have hgs := snR_t hxc hxS
    (have fs := And.intro f2 (And.intro f3 (And.intro f7 (And.intro f8 (And.intro f9 (And.intro @i64.eq_1 (And.intro q3 (And.intro h7 (And.intro hHc (And.intro hgi (And.intro hx (And.intro h00 (And.intro hil' (And.intro hxx (And.intro hx00 (And.intro hxc' (And.intro hgs w3)))))))))))))))); (repeat (first | refine hGx _ ?_ | refine hNx _ ?_ | refine W_skip ?_ | refine W_exit ?_ | refine W_ret ?_ | refine W_label ?_ | refine W_scope ?_ | refine W_block ?_ | refine W_seq ?_ | ((first | refine tS fun N hNx => ?_ | refine WL_gE rfl rfl (by kernel_rfl) (by kernel_rfl) fun G hGx => ?_ | refine vcOpsS_sound (by kernel_rfl) ?_ | refine W_ifE fun A B hAx hBx => ?_); refine evT ?_; (first | refine hGx _ ?_ | refine hNx _ ?_ | refine hAx ?_ | refine hBx ?_ | skip)))); (try clear fs))
    refine ⟨Nat.lt_of_lt_of_le hil bd2, hdf, f2, f3, f7, rfl, hle, L, S, ob, h7, hg, hob, ⟨hkr.nd, hkr.rea, hkr.sub, fun j hj hji => ?_, hkr.st, hkr.cl, hkr.le⟩, by omega⟩
    by_cases e : j = i
    · subst e; rw [← hxe]; exact hxS
    · exact hkr.dn j hj (by omega)
  have hgs := snR_f hxc hxS
  have hset := snR_set (S := S) (n := cntG b.g) (i := xn)
  have hHc' : ∀ z, (s.H.upd c7 z) c = some (.row 3 o 1 (L.map iD)) := fun z => (Heap.upd_ne hc7n).trans hHc
  (have fs := And.intro f2 (And.intro f3 (And.intro f7 (And.intro f8 (And.intro f9 (And.intro @i64.eq_1 (And.intro q3 (And.intro h7 (And.intro hHc (And.intro hgi (And.intro hx (And.intro h00 (And.intro hil' (And.intro hxx (And.intro hx00 (And.intro hxc' (And.intro hgs hset)))))))))))))))); (repeat (first | refine hGx _ ?_ | refine hNx _ ?_ | refine W_skip ?_ | refine W_exit ?_ | refine W_ret ?_ | refine W_label ?_ | refine W_scope ?_ | refine W_block ?_ | refine W_seq ?_ | ((first | refine tS fun N hNx => ?_ | refine WL_gE rfl rfl (by kernel_rfl) (by kernel_rfl) fun G hGx => ?_ | refine vcOpsS_sound (by kernel_rfl) ?_ | refine W_ifE fun A B hAx hBx => ?_); refine evT ?_; (first | refine hGx _ ?_ | refine hNx _ ?_ | refine hAx ?_ | refine hBx ?_ | skip)))); (try clear fs))
  have hcall : ∀ H1, CallOK Try.prog 19 [.agg (gbdD b), i64 xn] H1 fun d A => A = Heap.none ∧ d = .seq 1 ((nxt b.g xn).map iD) := fun H1 => callOK_eq fun H'' hle'' => knext_N b xn H'' hc (by omega) hta
  simp only [gbdD] at hcall
  have hg4 : Gl H 3 1 (L.map iD) (.os c o 1 0 L.length) (s.H.upd c7 (.row 4 0 1 (snR ((xn : Int) :: S) (cntG b.g)))) (some c) := .inr ⟨c, o, rfl, by rw [List.length_map], hc0, hHc' _⟩
  have hle4 : H.le (s.H.upd c7 (.row 4 0 1 (snR ((xn : Int) :: S) (cntG b.g)))) := Heap.le_put hle hc7
  have hnl := nxt_len b.g xn
  refine W_wildE (fun _ => false) (fun _ => false) (fun _ _ d A => A = .none ∧ d = .seq 1 ((nxt b.g xn).map iD)) (fun _ _ _ _ _ => False) (by kernel_rfl) (by kernel_rfl) (by kernel_rfl) (by kernel_rfl) (by kernel_rfl) fun N hNx => ?_; refine vcWS_to ?_; have fs := And.intro f3 (And.intro f8 (And.intro f9 (And.intro @i64.eq_1 (And.intro hHc' (And.intro hgi (And.intro hx (And.intro h00 hil'))))))); refine evD ?_; (first | refine hGx _ ?_ | refine hNx _ ?_ | skip); (try clear fs)
  refine ⟨hcall _, ?_⟩
  refine apV_grow (e := 3) ty43 rfl ty43 rfl ty3 rfl (by decide) hle4 hg4 (new := (nxt b.g xn).map iD) (by exact ⟨rfl, rfl⟩) (by rw [List.length_map, List.length_map]; show (_ + _) * 8 ≤ _; omega) fun d H6 ob6 hg6 hle6 hp6 => ?_
  have h76 := hp6 c7 _ (Heap.upd_same _ _ _) (fun e => hc7n (by injection e))
  rw [← List.map_append] at hg6
  (have fs := And.intro f9 (And.intro @i64.eq_1 w3); (repeat (first | refine hGx _ ?_ | refine hNx _ ?_ | refine W_skip ?_ | refine W_exit ?_ | refine W_ret ?_ | refine W_label ?_ | refine W_scope ?_ | refine W_block ?_ | refine W_seq ?_ | ((first | refine tS fun N hNx => ?_ | refine WL_gE rfl rfl (by kernel_rfl) (by kernel_rfl) fun G hGx => ?_ | refine vcOpsS_sound (by kernel_rfl) ?_ | refine W_ifE fun A B hAx hBx => ?_); refine evT ?_; (first | refine hGx _ ?_ | refine hNx _ ?_ | refine hAx ?_ | refine hBx ?_ | skip)))); (try clear fs))
  refine ⟨Nat.lt_of_lt_of_le hil bd2, hdf, f2, f3, f7, rfl, hle6, L ++ nxt b.g xn, (xn : Int) :: S, ob6, h76.1, hg6, h76.2, ⟨List.nodup_cons.2 ⟨hxS, hkr.nd⟩, ?_, ?_, ?_, ?_, ?_, ?_⟩, by rw [List.length_append]; omega⟩
  · intro z hz
    rcases List.mem_append.1 hz with hz | hz
    · exact hkr.rea z hz
    · exact hxr.step (mem_nxt.1 hz)
  · intro z hz
    rcases List.mem_cons.1 hz with rfl | hz
    · exact List.mem_append.2 (.inl hxL)
    · exact List.mem_append.2 (.inl (hkr.sub z hz))
  · intro j hj hji
    have hjl : j < L.length := by omega
    rw [List.getElem_append_left hjl]
    by_cases e : j = i
    · subst e; rw [← hxe]; exact List.mem_cons_self
    · exact List.mem_cons_of_mem _ (hkr.dn j hjl (by omega))
  · intro z hz
    exact List.mem_append.2 (.inl (hkr.st z hz))
  · intro z hz y hy
    rcases List.mem_cons.1 hz with rfl | hz
    · exact List.mem_append.2 (.inr (mem_nxt.2 hy))
    · exact List.mem_append.2 (.inl (hkr.cl z hz y hy))
  · have := hkr.le
    rw [List.length_append, List.length_cons, Nat.succ_mul]
    omega
end Go.Proofs.Ytdbeimlancnncaa
