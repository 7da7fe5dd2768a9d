/- Lemmas and contracts of functions, several texts in one: P5 P6 P7. -/
import Derived.Test.YtdbeimlancnncaaGPB
import Derived.Test.YtdbeimlancnncaaGPC
import Derived.Test.YtdbeimlancnncaaGI
/- package points: next, Next. -/
namespace Go.Proofs.Ytdbeimlancnncaa
open Go.RowKit
set_option linter.unusedVariables false
set_option maxRecDepth 100000
set_option linter.unusedSimpArgs false
theorem sortI_mem {l : List Int} {x : Int} : x ∈ sortI l ↔ x ∈ l := List.mem_mergeSort
theorem sortI_le (l : List Int) : (sortI l).Pairwise (· ≤ ·) := by
  have h1 : (sortI l).Pairwise fun a b => decide (a ≤ b) = true := List.pairwise_mergeSort (fun a b c h1 h2 => by simp at *; omega) (fun a b => by simp; omega) l
  exact h1.imp fun {a b} h => by simpa using h
/-- The first points of the targets, in order. -/
def tgP (G : Gr) (l : List Int) : List Int := l.flatMap fun (t : Int) => if 0 ≤ t ∧ t < G.length then [(fstG G t.toNat : Int)] else []
theorem tgP_snoc (G : Gr) (l : List Int) (t : Int) : tgP G (l ++ [t]) = tgP G l ++ (if 0 ≤ t ∧ t < G.length then [(fstG G t.toNat : Int)] else []) := by
  unfold tgP; rw [List.flatMap_append]; simp
theorem tgP_len (G : Gr) (l : List Int) : (tgP G l).length ≤ l.length := by
  induction l with
  | nil => simp [tgP]
  | cons t l ih =>
    have : tgP G (t :: l) = (if 0 ≤ t ∧ t < G.length then [(fstG G t.toNat : Int)] else []) ++ tgP G l := rfl
    rw [this, List.length_append, List.length_cons]
    split <;> simp <;> omega
theorem mem_tgP {G : Gr} {l : List Int} {q : Int} : q ∈ tgP G l ↔ ∃ t ∈ l, 0 ≤ t ∧ t < G.length ∧ q = fstG G t.toNat := by
  unfold tgP
  rw [List.mem_flatMap]
  constructor
  · rintro ⟨t, ht, h⟩
    split at h
    · rename_i h1
      exact ⟨t, ht, h1.1, h1.2, by simpa using h⟩
    · cases h
  · rintro ⟨t, ht, h1, h2, rfl⟩
    exact ⟨t, ht, by rw [if_pos ⟨h1, h2⟩]; simp⟩
theorem nxt_in {G : Gr} {p : Int} {i k : Nat} (h : At G p i k) (hi : i < G.length) (hk : k < G[i].1) : nxt G p = [p + 1] := by
  refine strict_eq (nxt_strict G p) (by simp) fun q => ?_
  rw [mem_nxt, fol_at h, List.mem_singleton]
  obtain ⟨_, _, h3⟩ := h
  constructor
  · rintro ⟨_, ⟨_, e⟩ | ⟨e, _⟩⟩ <;> omega
  · intro e; exact ⟨hi, .inl ⟨hk, by omega⟩⟩
theorem nxt_end {G : Gr} {p : Int} {i k : Nat} (h : At G p i k) (hi : i < G.length) (hk : k = G[i].1) : cmpI (sortI (tgP G G[i].2)) = nxt G p := by
  refine strict_eq (cmpI_strict (sortI_le _)) (nxt_strict G p) fun q => ?_
  rw [cmpI_mem, sortI_mem, mem_tgP, mem_nxt, fol_at h]
  constructor
  · rintro h; exact ⟨hi, .inr ⟨hk, h⟩⟩
  · rintro ⟨_, ⟨h1, _⟩ | ⟨_, h2⟩⟩
    · omega
    · exact h2
set_option maxHeartbeats 1000000 in
theorem next_N (b : GBdy) (p : Int) (i k : Nat) (H : Heap) (hat : At b.g p i k) (hc : cntG b.g ≤ 1000000) (hta : ∀ x ∈ b.bl, x.tg.length ≤ 1000000) : Does Try.prog 28 [.agg (gbdD b), .seq 1 ((stP b.g (b.bl.length + 1)).map iD), .agg [i64 i, i64 k]] H fun d H' => d = .seq 1 ((nxt b.g p).map iD) ∧ H = H' := by
  refine Does.frz (K := fun d => d = .seq 1 ((nxt b.g p).map iD)) ?_
  have hbl := bl_len b
  have hsm := bl_small hc
  have hll : (List.map iD (stP b.g (b.bl.length + 1))).length = b.bl.length + 1 := by rw [List.length_map, stP_len]
  obtain ⟨hil, hk, hpe⟩ := at_b.1 hat
  have hig : i < b.g.length := by rw [b.g_len]; exact hil
  have hil' : (i : Int) < b.bl.length := by omega
  have hil2 : (i : Int) < ((b.bl.length + 1 : Nat) : Int) := by omega
  have hx : (i : Int).toNat = i := Int.toNat_natCast _
  have h00 : (0 : Int) ≤ (i : Int) := Int.natCast_nonneg _
  have hgi := blk_get hil
  have hst := st_small hc hil
  have htx := hta b.bl[i] (List.getElem_mem hil)
  have hgc := stP_cell b.g (show i < b.bl.length + 1 by omega)
  have hn1 := nxt_in hat hig
  have hn2 := nxt_end hat hig
  rw [b.g_get hil] at hn1 hn2
  obtain ⟨x, hxe⟩ : ∃ x, x = b.bl[i] := ⟨_, rfl⟩
  rw [← hxe] at hgi hk hst htx hn1 hn2
  simp only [gbkD] at hgi
  refine does_of _ _ Try.func28 rfl rfl Try.ntmps28 Try.results28 (by simp only [List.length_cons, List.length_nil]; omega) fun w0 Q hret => ?_
  (have fs := And.intro @i64.eq_1 @gbdD.eq_1; (repeat (first | refine hGx _ ?_ | refine hNx _ ?_ | refine W_skip ?_ | refine W_exit ?_ | refine W_ret ?_ | refine W_label ?_ | refine W_scope ?_ | refine W_block ?_ | refine W_seq ?_ | ((first | refine tS fun N hNx => ?_ | refine WL_gE rfl rfl (by kernel_rfl) (by kernel_rfl) fun G hGx => ?_ | refine vcOpsS_sound (by kernel_rfl) ?_ | refine W_ifE fun A B hAx hBx => ?_); refine evT ?_; (first | refine hGx _ ?_ | refine hNx _ ?_ | refine hAx ?_ | refine hBx ?_ | skip)))); (try clear fs))
  intro c3 hc3 c5 hc5
  have hne : c3 ≠ c5 := Heap.ne_of (Heap.upd_same _ _ _) hc5
  have hc50 : H c5 = none := (Heap.upd_none.1 hc5).2
  refine hNx _ ?_
  refine W_frzp 3 rfl ((Heap.upd_ne hne).trans (Heap.upd_same _ _ _)) rfl ?_
  refine W_frzp 5 rfl ((Heap.del_ne hne.symm).trans (Heap.upd_same _ _ _)) rfl ?_
  refine W_less H (fun x z hz => ?_) ?_
  · have e1 : x ≠ c3 := fun e => by rw [e, hc3] at hz; cases hz
    have e2 : x ≠ c5 := fun e => by rw [e, hc50] at hz; cases hz
    show ((((H.upd c3 _).upd c5 _).del c3).del c5) x = _
    rw [Heap.del_ne e2, Heap.del_ne e1, Heap.upd_ne e2, Heap.upd_ne e1]
    exact hz
  simp only [St.frzp, List.drop]
  (have fs := And.intro @i64.eq_1 (And.intro hgi (And.intro hx (And.intro h00 (And.intro hil (And.intro hil' hbl))))); (repeat (first | refine hGx _ ?_ | refine hNx _ ?_ | refine W_skip ?_ | refine W_exit ?_ | refine W_ret ?_ | refine W_label ?_ | refine W_scope ?_ | refine W_block ?_ | refine W_seq ?_ | ((first | refine tS fun N hNx => ?_ | refine WL_gE rfl rfl (by kernel_rfl) (by kernel_rfl) fun G hGx => ?_ | refine vcOpsS_sound (by kernel_rfl) ?_ | refine W_ifE fun A B hAx hBx => ?_); refine evT ?_; (first | refine hGx _ ?_ | refine hNx _ ?_ | refine hAx ?_ | refine hBx ?_ | skip)))); (try clear fs))
  intro c7 hc7
  refine hNx _ ?_
  refine W_frzp 7 rfl (Heap.upd_same _ _ _) rfl ?_; simp only [St.frzp, put_H, wdf_H, withH_H, withH_put, wdf_withH, withH_withH, init_H, init_withH, Heap.del_upd_same, Heap.del_none hc7, withH_self]
  by_cases hks : k < x.st.length
  · have q1 : ((k : Int) < (x.st.length : Int)) = True := eq_true (by omega)
    have w1 : IntKind.i64.wrap ((fstG b.g i : Int) + (k : Int)) = p := by rw [wrap_i64_of (by omega)]; omega
    have w2 : IntKind.i64.wrap (p + 1) = p + 1 := by rw [wrap_i64_of (by omega)]
    have e := hn1 hks
    (have fs := And.intro @i64.eq_1 q1; (repeat (first | refine hGx _ ?_ | refine hNx _ ?_ | refine W_skip ?_ | refine W_exit ?_ | refine W_ret ?_ | refine W_label ?_ | refine W_scope ?_ | refine W_block ?_ | refine W_seq ?_ | ((first | refine tS fun N hNx => ?_ | refine WL_gE rfl rfl (by kernel_rfl) (by kernel_rfl) fun G hGx => ?_ | refine vcOpsS_sound (by kernel_rfl) ?_ | refine W_ifE fun A B hAx hBx => ?_); refine evT ?_; (first | refine hGx _ ?_ | refine hNx _ ?_ | refine hAx ?_ | refine hBx ?_ | skip)))); (try clear fs))
    refine W_drawE (fun _ _ _ _ => False) (by kernel_rfl) (by kernel_rfl) (by kernel_rfl) fun N hNx => ?_; (have fs := And.intro @i64.eq_1 (And.intro hgc (And.intro hx (And.intro h00 (And.intro hil2 (And.intro hll (And.intro w1 w2)))))); (repeat ((first | refine vcD_g rfl rfl fun G hGx => ?_ | refine vcDS_to ?_); refine evD ?_; (first | refine hGx _ ?_ | refine hNx _ ?_ | skip))); (try clear fs))
    (have fs := @i64.eq_1; (repeat (first | refine hGx _ ?_ | refine hNx _ ?_ | refine W_skip ?_ | refine W_exit ?_ | refine W_ret ?_ | refine W_label ?_ | refine W_scope ?_ | refine W_block ?_ | refine W_seq ?_ | ((first | refine tS fun N hNx => ?_ | refine WL_gE rfl rfl (by kernel_rfl) (by kernel_rfl) fun G hGx => ?_ | refine vcOpsS_sound (by kernel_rfl) ?_ | refine W_ifE fun A B hAx hBx => ?_); refine evT ?_; (first | refine hGx _ ?_ | refine hNx _ ?_ | refine hAx ?_ | refine hBx ?_ | skip)))); (try clear fs))
    (first | (show Q .ret _) | (show Q .normal _) | skip); refine hret _ _ (by first | exact .inr rfl | exact .inl rfl) (by first | rfl | assumption | (simp only [put_df, withH_df]; assumption)) ?_; have fs := @i64.eq_1; refine evT ?_; clear fs
    exact ⟨_, Heap.le_refl _, Heap.le_refl _, _, frz_refl (Heap.le_refl _), by rw [e]; rfl⟩
  have q1 : ((k : Int) < (x.st.length : Int)) = False := eq_false (by omega)
  have e := hn2 (by show k = x.st.length; omega)
  have htl : (List.map iD x.tg).length = x.tg.length := List.length_map _
  (have fs := And.intro @i64.eq_1 (And.intro q1 htl); (repeat (first | refine hGx _ ?_ | refine hNx _ ?_ | refine W_skip ?_ | refine W_exit ?_ | refine W_ret ?_ | refine W_label ?_ | refine W_scope ?_ | refine W_block ?_ | refine W_seq ?_ | ((first | refine tS fun N hNx => ?_ | refine WL_gE rfl rfl (by kernel_rfl) (by kernel_rfl) fun G hGx => ?_ | refine vcOpsS_sound (by kernel_rfl) ?_ | refine W_ifE fun A B hAx hBx => ?_); refine evT ?_; (first | refine hGx _ ?_ | refine hNx _ ?_ | refine hAx ?_ | refine hBx ?_ | skip)))); (try clear fs))
  refine W_loopN x.tg.length (fun j s => s.df = [] ∧ s.fr 1 = .seq 1 ((stP b.g (b.bl.length + 1)).map iD) ∧ s.fr 3 = .rp (gbdD b) ∧ s.fr 35 = .seq 1 (x.tg.map iD) ∧ s.fr 36 = i64 x.tg.length ∧ s.fr 37 = i64 j ∧ H.le s.H ∧ ∃ ob, Gl H 3 1 ((tgP b.g (x.tg.take j)).map iD) (s.fr 8) s.H ob) ⟨rfl, rfl, rfl, rfl, rfl, rfl, Heap.le_refl _, none, Gl.nil _ _ _ _⟩ ?_
  rintro j s hj ⟨hdf, f1, f3, f35, f36, f37, hle, ob, hg⟩
  simp only [gbdD] at f3
  have hxj : (j : Int).toNat = j := Int.toNat_natCast _
  have h0j : (0 : Int) ≤ (j : Int) := Int.natCast_nonneg _
  have htp := tgP_len b.g (x.tg.take j)
  rw [List.length_take] at htp
  by_cases hjl : j < x.tg.length
  case neg =>
    have q2 : ((j : Int) < (x.tg.length : Int)) = False := eq_false (by omega)
    rw [List.take_of_length_le (by omega)] at hg htp
    (have fs := And.intro f36 (And.intro f37 (And.intro @i64.eq_1 q2)); (repeat (first | refine hGx _ ?_ | refine hNx _ ?_ | refine W_skip ?_ | refine W_exit ?_ | refine W_ret ?_ | refine W_label ?_ | refine W_scope ?_ | refine W_block ?_ | refine W_seq ?_ | ((first | refine tS fun N hNx => ?_ | refine WL_gE rfl rfl (by kernel_rfl) (by kernel_rfl) fun G hGx => ?_ | refine vcOpsS_sound (by kernel_rfl) ?_ | refine W_ifE fun A B hAx hBx => ?_); refine evT ?_; (first | refine hGx _ ?_ | refine hNx _ ?_ | refine hAx ?_ | refine hBx ?_ | skip)))); (try clear fs))
    rcases hg with ⟨_, e1, e2⟩ | ⟨c, o, e0, e1, e2, e3⟩
    · have ht0 : tgP b.g x.tg = [] := by simpa using e2
      rw [e1]
      refine (sort_nil _).mono ?_
      rintro d _ ⟨rfl, rfl⟩
      (have fs := And.intro e1 @i64.eq_1; (repeat (first | refine hGx _ ?_ | refine hNx _ ?_ | refine W_skip ?_ | refine W_exit ?_ | refine W_ret ?_ | refine W_label ?_ | refine W_scope ?_ | refine W_block ?_ | refine W_seq ?_ | ((first | refine tS fun N hNx => ?_ | refine WL_gE rfl rfl (by kernel_rfl) (by kernel_rfl) fun G hGx => ?_ | refine vcOpsS_sound (by kernel_rfl) ?_ | refine W_ifE fun A B hAx hBx => ?_); refine evT ?_; (first | refine hGx _ ?_ | refine hNx _ ?_ | refine hAx ?_ | refine hBx ?_ | skip)))); (try clear fs))
      refine (compact_nil _).mono ?_
      rintro d _ ⟨rfl, rfl⟩
      (have fs := @i64.eq_1; (repeat (first | refine hGx _ ?_ | refine hNx _ ?_ | refine W_skip ?_ | refine W_exit ?_ | refine W_ret ?_ | refine W_label ?_ | refine W_scope ?_ | refine W_block ?_ | refine W_seq ?_ | ((first | refine tS fun N hNx => ?_ | refine WL_gE rfl rfl (by kernel_rfl) (by kernel_rfl) fun G hGx => ?_ | refine vcOpsS_sound (by kernel_rfl) ?_ | refine W_ifE fun A B hAx hBx => ?_); refine evT ?_; (first | refine hGx _ ?_ | refine hNx _ ?_ | refine hAx ?_ | refine hBx ?_ | skip)))); (try clear fs))
      (first | (show Q .ret _) | (show Q .normal _) | skip); refine hret _ _ (by first | exact .inr rfl | exact .inl rfl) (by first | rfl | assumption | (simp only [put_df, withH_df]; assumption)) ?_; have fs := hdf; refine evT ?_; clear fs
      exact ⟨_, Heap.le_refl _, hle, .seq 1 [], frz_nil, by rw [← e, ht0]; simp [sortI, cmpI]⟩
    · rw [List.length_map] at e1
      rw [e1]
      refine (sort_own e3 (by omega)).mono ?_
      rintro d _ ⟨rfl, rfl⟩
      (have fs := And.intro e1 @i64.eq_1; (repeat (first | refine hGx _ ?_ | refine hNx _ ?_ | refine W_skip ?_ | refine W_exit ?_ | refine W_ret ?_ | refine W_label ?_ | refine W_scope ?_ | refine W_block ?_ | refine W_seq ?_ | ((first | refine tS fun N hNx => ?_ | refine WL_gE rfl rfl (by kernel_rfl) (by kernel_rfl) fun G hGx => ?_ | refine vcOpsS_sound (by kernel_rfl) ?_ | refine W_ifE fun A B hAx hBx => ?_); refine evT ?_; (first | refine hGx _ ?_ | refine hNx _ ?_ | refine hAx ?_ | refine hBx ?_ | skip)))); (try clear fs))
      have h5 : ((s.H.upd c (.row 3 o 1 ((sortI (tgP b.g x.tg)).map iD))) c) = some (.row 3 o 1 ((sortI (tgP b.g x.tg)).map iD)) := Heap.upd_same _ _ _
      have h6 := compact_own h5 (by rw [sortI_length]; omega)
      rw [sortI_length] at h6
      refine h6.mono ?_
      rintro d _ ⟨rfl, cur, rfl, hcur⟩
      (have fs := @i64.eq_1; (repeat (first | refine hGx _ ?_ | refine hNx _ ?_ | refine W_skip ?_ | refine W_exit ?_ | refine W_ret ?_ | refine W_label ?_ | refine W_scope ?_ | refine W_block ?_ | refine W_seq ?_ | ((first | refine tS fun N hNx => ?_ | refine WL_gE rfl rfl (by kernel_rfl) (by kernel_rfl) fun G hGx => ?_ | refine vcOpsS_sound (by kernel_rfl) ?_ | refine W_ifE fun A B hAx hBx => ?_); refine evT ?_; (first | refine hGx _ ?_ | refine hNx _ ?_ | refine hAx ?_ | refine hBx ?_ | skip)))); (try clear fs))
      (first | (show Q .ret _) | (show Q .normal _) | skip); refine hret _ _ (by first | exact .inr rfl | exact .inl rfl) (by first | rfl | assumption | (simp only [put_df, withH_df]; assumption)) ?_; have fs := hdf; refine evT ?_; clear fs
      have hle6 : H.le (s.H.upd c (.row 3 o 1 (cur.map iD))) := Heap.le_put hle e2
      have hnl : (cmpI (sortI (tgP b.g x.tg))).length ≤ cur.length := by have := congrArg List.length hcur; rw [List.length_take] at this; omega
      exact ⟨_, Heap.le_refl _, hle6, _, frz_row (k := 0) hle6 (Heap.upd_same _ _ _) e2 (by rw [List.length_map]; omega), by rw [List.drop_zero, ← List.map_take, hcur, e]⟩
  have q2 : ((j : Int) < (x.tg.length : Int)) = True := eq_true (by omega)
  have hgj := get_ints hjl
  have w4 : IntKind.i64.wrap ((j : Int) + 1) = ((j + 1 : Nat) : Int) := by rw [wrap_i64_of (by omega)]; omega
  have htk := List.take_succ_eq_append_getElem hjl
  obtain ⟨t, hte⟩ : ∃ t, t = x.tg[j] := ⟨_, rfl⟩
  rw [← hte] at hgj htk
  have hsn := tgP_snoc b.g (x.tg.take j) t
  rw [← htk, b.g_len] at hsn
  by_cases ht0 : 0 ≤ t
  case neg =>
    have q3 : (0 ≤ t) = False := eq_false ht0
    rw [if_neg fun h => ht0 h.1, List.append_nil] at hsn
    (have fs := And.intro f35 (And.intro f36 (And.intro f37 (And.intro @i64.eq_1 (And.intro q2 (And.intro q3 (And.intro hgj (And.intro hxj (And.intro h0j (And.intro hjl (And.intro htl w4)))))))))); (repeat (first | refine hGx _ ?_ | refine hNx _ ?_ | refine W_skip ?_ | refine W_exit ?_ | refine W_ret ?_ | refine W_label ?_ | refine W_scope ?_ | refine W_block ?_ | refine W_seq ?_ | ((first | refine tS fun N hNx => ?_ | refine WL_gE rfl rfl (by kernel_rfl) (by kernel_rfl) fun G hGx => ?_ | refine vcOpsS_sound (by kernel_rfl) ?_ | refine W_ifE fun A B hAx hBx => ?_); refine evT ?_; (first | refine hGx _ ?_ | refine hNx _ ?_ | refine hAx ?_ | refine hBx ?_ | skip)))); (try clear fs))
    exact ⟨hjl, hdf, f1, f3, f35, f36, rfl, hle, ob, by rw [hsn]; exact hg⟩
  have q3 : (0 ≤ t) = True := eq_true ht0
  by_cases htb : t < b.bl.length
  case neg =>
    have q4 : (t < (b.bl.length : Int)) = False := eq_false htb
    rw [if_neg fun h => htb h.2, List.append_nil] at hsn
    (have fs := And.intro f3 (And.intro f35 (And.intro f36 (And.intro f37 (And.intro @i64.eq_1 (And.intro q2 (And.intro q3 (And.intro q4 (And.intro hgj (And.intro hxj (And.intro h0j (And.intro hjl (And.intro htl (And.intro hbl w4))))))))))))); (repeat (first | refine hGx _ ?_ | refine hNx _ ?_ | refine W_skip ?_ | refine W_exit ?_ | refine W_ret ?_ | refine W_label ?_ | refine W_scope ?_ | refine W_block ?_ | refine W_seq ?_ | ((first | refine tS fun N hNx => ?_ | refine WL_gE rfl rfl (by kernel_rfl) (by kernel_rfl) fun G hGx => ?_ | refine vcOpsS_sound (by kernel_rfl) ?_ | refine W_ifE fun A B hAx hBx => ?_); refine evT ?_; (first | refine hGx _ ?_ | refine hNx _ ?_ | refine hAx ?_ | refine hBx ?_ | skip)))); (try clear fs))
    exact ⟨hjl, hdf, f1, f3, f35, f36, rfl, hle, ob, by rw [hsn]; exact hg⟩
  have q4 : (t < (b.bl.length : Int)) = True := eq_true htb
  rw [if_pos ⟨ht0, htb⟩] at hsn
  have hgt := stP_cell b.g (show t.toNat < b.bl.length + 1 by omega)
  have htlt : t < ((b.bl.length + 1 : Nat) : Int) := by omega
  (have fs := And.intro f1 (And.intro f3 (And.intro f35 (And.intro f36 (And.intro f37 (And.intro @i64.eq_1 (And.intro q2 (And.intro q3 (And.intro q4 (And.intro hgj (And.intro hxj (And.intro h0j (And.intro hjl (And.intro htl (And.intro hbl (And.intro hgt (And.intro ht0 (And.intro htlt hll))))))))))))))))); (repeat (first | refine hGx _ ?_ | refine hNx _ ?_ | refine W_skip ?_ | refine W_exit ?_ | refine W_ret ?_ | refine W_label ?_ | refine W_scope ?_ | refine W_block ?_ | refine W_seq ?_ | ((first | refine tS fun N hNx => ?_ | refine WL_gE rfl rfl (by kernel_rfl) (by kernel_rfl) fun G hGx => ?_ | refine vcOpsS_sound (by kernel_rfl) ?_ | refine W_ifE fun A B hAx hBx => ?_); refine evT ?_; (first | refine hGx _ ?_ | refine hNx _ ?_ | refine hAx ?_ | refine hBx ?_ | skip)))); (try clear fs))
  refine apV_grow (e := 3) ty43 rfl ty43 rfl ty3 rfl (by decide) hle hg (new := [iD (fstG b.g t.toNat : Int)]) (by exact ⟨rfl, rfl⟩) (by rw [List.length_map]; show (_ + 1) * 8 ≤ _; omega) fun d H6 ob6 hg6 hle6 hp6 => ?_
  (have fs := And.intro f37 (And.intro @i64.eq_1 w4); (repeat (first | refine hGx _ ?_ | refine hNx _ ?_ | refine W_skip ?_ | refine W_exit ?_ | refine W_ret ?_ | refine W_label ?_ | refine W_scope ?_ | refine W_block ?_ | refine W_seq ?_ | ((first | refine tS fun N hNx => ?_ | refine WL_gE rfl rfl (by kernel_rfl) (by kernel_rfl) fun G hGx => ?_ | refine vcOpsS_sound (by kernel_rfl) ?_ | refine W_ifE fun A B hAx hBx => ?_); refine evT ?_; (first | refine hGx _ ?_ | refine hNx _ ?_ | refine hAx ?_ | refine hBx ?_ | skip)))); (try clear fs))
  refine ⟨hjl, hdf, f1, f3, f35, f36, rfl, hle6, ob6, ?_⟩
  rw [hsn, List.map_append]
  exact hg6
set_option maxHeartbeats 1000000 in
theorem pnext_N (b : GBdy) (p : Int) (H : Heap) (hc : cntG b.g ≤ 1000000) (hp : p ≤ 9223372036854775807) (hta : ∀ x ∈ b.bl, x.tg.length ≤ 1000000) : Does Try.prog 18 [.agg (gbdD b), i64 p] H fun d H' => d = .seq 1 ((nxt b.g p).map iD) ∧ H = H' := by
  refine Does.frz (K := fun d => d = .seq 1 ((nxt b.g p).map iD)) ?_
  refine does_of _ _ Try.func18 rfl rfl Try.ntmps18 Try.results18 (by simp only [List.length_cons, List.length_nil]; omega) fun w0 Q hret => ?_
  (have fs := And.intro @i64.eq_1 @gbdD.eq_1; (repeat (first | refine hGx _ ?_ | refine hNx _ ?_ | refine W_skip ?_ | refine W_exit ?_ | refine W_ret ?_ | refine W_label ?_ | refine W_scope ?_ | refine W_block ?_ | refine W_seq ?_ | ((first | refine tS fun N hNx => ?_ | refine WL_gE rfl rfl (by kernel_rfl) (by kernel_rfl) fun G hGx => ?_ | refine vcOpsS_sound (by kernel_rfl) ?_ | refine W_ifE fun A B hAx hBx => ?_); refine evT ?_; (first | refine hGx _ ?_ | refine hNx _ ?_ | refine hAx ?_ | refine hBx ?_ | skip)))); (try clear fs))
  intro c2 hc2
  refine hNx _ ?_
  refine W_frzp 2 rfl (Heap.upd_same _ _ _) rfl ?_; simp only [St.frzp, put_H, wdf_H, withH_H, withH_put, wdf_withH, withH_withH, init_H, init_withH, Heap.del_upd_same, Heap.del_none hc2, withH_self]
  (have fs := @i64.eq_1; (repeat (first | refine hGx _ ?_ | refine hNx _ ?_ | refine W_skip ?_ | refine W_exit ?_ | refine W_ret ?_ | refine W_label ?_ | refine W_scope ?_ | refine W_block ?_ | refine W_seq ?_ | ((first | refine tS fun N hNx => ?_ | refine WL_gE rfl rfl (by kernel_rfl) (by kernel_rfl) fun G hGx => ?_ | refine vcOpsS_sound (by kernel_rfl) ?_ | refine W_ifE fun A B hAx hBx => ?_); refine evT ?_; (first | refine hGx _ ?_ | refine hNx _ ?_ | refine hAx ?_ | refine hBx ?_ | skip)))); (try clear fs))
  refine (loc_N b p _ hc hp).mono ?_
  rintro d _ ⟨rfl, rfl⟩
  by_cases hpr : 0 ≤ p ∧ p < cntG b.g
  case neg =>
    rw [locD_no hpr]
    (have fs := @i64.eq_1; (repeat (first | refine hGx _ ?_ | refine hNx _ ?_ | refine W_skip ?_ | refine W_exit ?_ | refine W_ret ?_ | refine W_label ?_ | refine W_scope ?_ | refine W_block ?_ | refine W_seq ?_ | ((first | refine tS fun N hNx => ?_ | refine WL_gE rfl rfl (by kernel_rfl) (by kernel_rfl) fun G hGx => ?_ | refine vcOpsS_sound (by kernel_rfl) ?_ | refine W_ifE fun A B hAx hBx => ?_); refine evT ?_; (first | refine hGx _ ?_ | refine hNx _ ?_ | refine hAx ?_ | refine hBx ?_ | skip)))); (try clear fs))
    (first | (show Q .ret _) | (show Q .normal _) | skip); refine hret _ _ (by first | exact .inr rfl | exact .inl rfl) (by first | rfl | assumption | (simp only [put_df, withH_df]; assumption)) ?_; have fs := @i64.eq_1; refine evT ?_; clear fs
    exact ⟨_, Heap.le_refl _, Heap.le_refl _, _, frz_nil, by rw [nxt_no hpr]; rfl⟩
  obtain ⟨i, k, hat⟩ := at_iff.2 hpr
  rw [locD_at hat]
  have hst : CallOK Try.prog 27 [.agg (gbdD b)] H fun d A => A = Heap.none ∧ d = .seq 1 ((stP b.g (b.bl.length + 1)).map iD) := callOK_eq fun H'' hle'' => starts_N b H'' hc
  have hnx : CallOK Try.prog 28 [.agg (gbdD b), .seq 1 ((stP b.g (b.bl.length + 1)).map iD), .agg [i64 i, i64 k]] H fun d A => A = Heap.none ∧ d = .seq 1 ((nxt b.g p).map iD) := callOK_eq fun H'' hle'' => next_N b p i k H'' hat hc hta
  simp only [gbdD] at hst hnx
  (have fs := @i64.eq_1; (repeat (first | refine hGx _ ?_ | refine hNx _ ?_ | refine W_skip ?_ | refine W_exit ?_ | refine W_ret ?_ | refine W_label ?_ | refine W_scope ?_ | refine W_block ?_ | refine W_seq ?_ | ((first | refine tS fun N hNx => ?_ | refine WL_gE rfl rfl (by kernel_rfl) (by kernel_rfl) fun G hGx => ?_ | refine vcOpsS_sound (by kernel_rfl) ?_ | refine W_ifE fun A B hAx hBx => ?_); refine evT ?_; (first | refine hGx _ ?_ | refine hNx _ ?_ | refine hAx ?_ | refine hBx ?_ | skip)))); (try clear fs))
  refine W_drawE (fun t _ d A => A = .none ∧ d = (if t = some 19 then .seq 1 ((stP b.g (b.bl.length + 1)).map iD) else .seq 1 ((nxt b.g p).map iD))) (by kernel_rfl) (by kernel_rfl) (by kernel_rfl) fun N hNx => ?_; (have fs := @i64.eq_1; (repeat ((first | refine vcD_g rfl rfl fun G hGx => ?_ | refine vcDS_to ?_); refine evD ?_; (first | refine hGx _ ?_ | refine hNx _ ?_ | skip))); (try clear fs))
  refine ⟨hst, ?_⟩
  (first | refine hGx _ ?_ | refine hNx _ ?_ | skip)
  (have fs := @i64.eq_1; (repeat ((first | refine vcD_g rfl rfl fun G hGx => ?_ | refine vcDS_to ?_); refine evD ?_; (first | refine hGx _ ?_ | refine hNx _ ?_ | skip))); (try clear fs))
  refine ⟨hnx, ?_⟩
  (first | refine hGx _ ?_ | refine hNx _ ?_ | skip)
  (have fs := @i64.eq_1; (repeat ((first | refine vcD_g rfl rfl fun G hGx => ?_ | refine vcDS_to ?_); refine evD ?_; (first | refine hGx _ ?_ | refine hNx _ ?_ | skip))); (try clear fs))
  (have fs := @i64.eq_1; (repeat (first | refine hGx _ ?_ | refine hNx _ ?_ | refine W_skip ?_ | refine W_exit ?_ | refine W_ret ?_ | refine W_label ?_ | refine W_scope ?_ | refine W_block ?_ | refine W_seq ?_ | ((first | refine tS fun N hNx => ?_ | refine WL_gE rfl rfl (by kernel_rfl) (by kernel_rfl) fun G hGx => ?_ | refine vcOpsS_sound (by kernel_rfl) ?_ | refine W_ifE fun A B hAx hBx => ?_); refine evT ?_; (first | refine hGx _ ?_ | refine hNx _ ?_ | refine hAx ?_ | refine hBx ?_ | skip)))); (try clear fs))
  (first | (show Q .ret _) | (show Q .normal _) | skip); refine hret _ _ (by first | exact .inr rfl | exact .inl rfl) (by first | rfl | assumption | (simp only [put_df, withH_df]; assumption)) ?_; have fs := @i64.eq_1; refine evT ?_; clear fs
  exact ⟨_, Heap.le_refl _, Heap.le_refl _, _, frz_refl (Heap.le_refl _), rfl⟩
end Go.Proofs.Ytdbeimlancnncaa
/- package points: the points of a body, one by one. -/
namespace Go.Proofs.Ytdbeimlancnncaa
open Go.RowKit
set_option linter.unusedVariables false
set_option maxRecDepth 100000
set_option linter.unusedSimpArgs false
/-- The points of a block. -/
def blkP (G : Gr) (i n : Nat) : List (Nat × Nat × Nat) := (List.range n).map fun k => (fstG G i + k, i, k)
def allP (G : Gr) (n : Nat) : List (Nat × Nat × Nat) := (List.range n).flatMap fun i => blkP G i ((G.getD i (0, [])).1 + 1)
theorem blkP_succ (G : Gr) (i n : Nat) : blkP G i (n + 1) = blkP G i n ++ [(fstG G i + n, i, n)] := by unfold blkP; rw [List.range_succ, List.map_append]; rfl
theorem allP_succ {G : Gr} {n : Nat} (h : n < G.length) : allP G (n + 1) = allP G n ++ blkP G n (G[n].1 + 1) := by
  unfold allP
  rw [List.range_succ, List.flatMap_append]
  simp [List.getD_eq_getElem?_getD, List.getElem?_eq_getElem h]
theorem range_pre {a b : Nat} (h : a ≤ b) : ∃ t, List.range b = List.range a ++ t := by
  obtain ⟨k, rfl⟩ := Nat.exists_eq_add_of_le h
  exact ⟨_, List.range_add⟩
theorem blkP_pre (G : Gr) (i : Nat) {a b : Nat} (h : a ≤ b) : blkP G i a <+: blkP G i b := by
  obtain ⟨t, ht⟩ := range_pre h
  unfold blkP
  rw [ht, List.map_append]
  exact ⟨_, rfl⟩
theorem allP_pre (G : Gr) {a b : Nat} (h : a ≤ b) : allP G a <+: allP G b := by
  obtain ⟨t, ht⟩ := range_pre h
  unfold allP
  rw [ht, List.flatMap_append]
  exact ⟨_, rfl⟩
theorem all_pre {G : Gr} {i k : Nat} (h : i < G.length) (hk : k ≤ G[i].1 + 1) : allP G i ++ blkP G i k <+: allP G G.length := by
  refine List.IsPrefix.trans ?_ (allP_pre G (show i + 1 ≤ G.length by omega))
  rw [allP_succ h]
  exact (List.prefix_append_right_inj _).2 (blkP_pre G i hk)
def ptD (x : Nat × Nat × Nat) : List D := [i64 x.1, .agg [i64 x.2.1, i64 x.2.2]]
set_option maxHeartbeats 1000000 in
theorem all_it (b : GBdy) (hc : cntG b.g ≤ 1000000) : Iter Try.prog 30 [.rp (gbdD b)] ptD (allP b.g b.g.length) fun _ => True := by
  have hbl := bl_len b
  have hsm := bl_small hc
  refine iter_of _ Try.func30 rfl rfl Try.ntmps30 Try.results30 (by simp only [List.length_cons, List.length_nil]; omega) fun l J Jx H w0 Q hok hJ hY hret => ?_
  (have fs := And.intro @i64.eq_1 (And.intro @gbdD.eq_1 (And.intro @yD.eq_1 hbl)); (repeat (first | refine hGx _ ?_ | refine hNx _ ?_ | refine W_skip ?_ | refine W_exit ?_ | refine W_ret ?_ | refine W_label ?_ | refine W_scope ?_ | refine W_block ?_ | refine W_seq ?_ | ((first | refine tS fun N hNx => ?_ | refine WL_gE rfl rfl (by kernel_rfl) (by kernel_rfl) fun G hGx => ?_ | refine vcOpsS_sound (by kernel_rfl) ?_ | refine W_ifE fun A B hAx hBx => ?_); refine evT ?_; (first | refine hGx _ ?_ | refine hNx _ ?_ | refine hAx ?_ | refine hBx ?_ | skip)))); (try clear fs))
  refine W_loopN b.bl.length (fun i s => s.df = [] ∧ s.fr 0 = yD l ∧ s.fr 3 = i64 (fstG b.g i) ∧ s.fr 8 = .seq 7 (b.bl.map gbkD) ∧ s.fr 9 = i64 b.bl.length ∧ s.fr 10 = i64 i ∧ J (allP b.g i) s.H) ⟨rfl, rfl, rfl, rfl, rfl, rfl, hJ⟩ ?_
  rintro i s hi ⟨hdf, f0, f3, f8, f9, f10, hj⟩
  have hx : (i : Int).toNat = i := Int.toNat_natCast _
  have h00 : (0 : Int) ≤ (i : Int) := Int.natCast_nonneg _
  by_cases hil : i < b.bl.length
  case neg =>
    have q1 : ((i : Int) < (b.bl.length : Int)) = False := eq_false (by omega)
    have e : i = b.g.length := by rw [b.g_len]; omega
    subst e
    (have fs := And.intro f9 (And.intro f10 (And.intro @i64.eq_1 q1)); (repeat (first | refine hGx _ ?_ | refine hNx _ ?_ | refine W_skip ?_ | refine W_exit ?_ | refine W_ret ?_ | refine W_label ?_ | refine W_scope ?_ | refine W_block ?_ | refine W_seq ?_ | ((first | refine tS fun N hNx => ?_ | refine WL_gE rfl rfl (by kernel_rfl) (by kernel_rfl) fun G hGx => ?_ | refine vcOpsS_sound (by kernel_rfl) ?_ | refine W_ifE fun A B hAx hBx => ?_); refine evT ?_; (first | refine hGx _ ?_ | refine hNx _ ?_ | refine hAx ?_ | refine hBx ?_ | skip)))); (try clear fs))
    exact hret _ _ (.inl rfl) hdf (.inl hj)
  have q1 : ((i : Int) < (b.bl.length : Int)) = True := eq_true (by omega)
  have hil' : (i : Int) < b.bl.length := by omega
  have hgi := blk_get hil
  have hst := st_small hc hil
  have hnx := fst_next b hil
  have hig : i < b.g.length := by rw [b.g_len]; exact hil
  have hpre := fun k => all_pre (G := b.g) (i := i) (k := k) hig
  have hall := allP_succ hig
  rw [b.g_get hil] at hpre hall
  obtain ⟨x, hxe⟩ : ∃ x, x = b.bl[i] := ⟨_, rfl⟩
  rw [← hxe] at hgi hst hnx hpre hall
  simp only at hpre hall
  simp only [gbkD] at hgi
  have w1 : IntKind.i64.wrap ((x.st.length : Int) + 1) = ((x.st.length + 1 : Nat) : Int) := by rw [wrap_i64_of (by omega)]; omega
  have w3 : IntKind.i64.wrap ((i : Int) + 1) = ((i + 1 : Nat) : Int) := by rw [wrap_i64_of (by omega)]; omega
  (have fs := And.intro f8 (And.intro f9 (And.intro f10 (And.intro @i64.eq_1 (And.intro q1 (And.intro hgi (And.intro hx (And.intro h00 (And.intro hil (And.intro hil' hbl))))))))); (repeat (first | refine hGx _ ?_ | refine hNx _ ?_ | refine W_skip ?_ | refine W_exit ?_ | refine W_ret ?_ | refine W_label ?_ | refine W_scope ?_ | refine W_block ?_ | refine W_seq ?_ | ((first | refine tS fun N hNx => ?_ | refine WL_gE rfl rfl (by kernel_rfl) (by kernel_rfl) fun G hGx => ?_ | refine vcOpsS_sound (by kernel_rfl) ?_ | refine W_ifE fun A B hAx hBx => ?_); refine evT ?_; (first | refine hGx _ ?_ | refine hNx _ ?_ | refine hAx ?_ | refine hBx ?_ | skip)))); (try clear fs))
  intro c5 hc5
  refine hNx _ ?_
  refine W_frzp 5 rfl (Heap.upd_same _ _ _) rfl ?_; simp only [St.frzp, put_H, wdf_H, withH_H, withH_put, wdf_withH, withH_withH, init_H, init_withH, Heap.del_upd_same, Heap.del_none hc5, withH_self]
  (have fs := And.intro @i64.eq_1 w1; (repeat (first | refine hGx _ ?_ | refine hNx _ ?_ | refine W_skip ?_ | refine W_exit ?_ | refine W_ret ?_ | refine W_label ?_ | refine W_scope ?_ | refine W_block ?_ | refine W_seq ?_ | ((first | refine tS fun N hNx => ?_ | refine WL_gE rfl rfl (by kernel_rfl) (by kernel_rfl) fun G hGx => ?_ | refine vcOpsS_sound (by kernel_rfl) ?_ | refine W_ifE fun A B hAx hBx => ?_); refine evT ?_; (first | refine hGx _ ?_ | refine hNx _ ?_ | refine hAx ?_ | refine hBx ?_ | skip)))); (try clear fs))
  refine W_loopN (x.st.length + 1) (fun k s => s.df = [] ∧ s.fr 0 = yD l ∧ s.fr 3 = i64 (fstG b.g i + k : Nat) ∧ s.fr 4 = i64 i ∧ s.fr 8 = .seq 7 (b.bl.map gbkD) ∧ s.fr 9 = i64 b.bl.length ∧ s.fr 10 = i64 i ∧ s.fr 18 = i64 (x.st.length + 1 : Nat) ∧ s.fr 19 = i64 k ∧ J (allP b.g i ++ blkP b.g i k) s.H) ⟨hdf, f0, f3, rfl, f8, f9, f10, rfl, rfl, by unfold blkP; rw [List.range_zero, List.map_nil, List.append_nil]; exact hj⟩ ?_
  rintro k s2 hk ⟨gdf, g0, g3, g4, g8, g9, g10, g18, g19, gj⟩
  by_cases hkl : k < x.st.length + 1
  case neg =>
    have q2 : ((k : Int) < ((x.st.length + 1 : Nat) : Int)) = False := eq_false (by omega)
    have e : k = x.st.length + 1 := by omega
    subst e
    rw [← hall] at gj
    have e2 : fstG b.g i + (x.st.length + 1) = fstG b.g (i + 1) := by omega
    rw [e2] at g3
    (have fs := And.intro g10 (And.intro g18 (And.intro g19 (And.intro @i64.eq_1 (And.intro q2 w3)))); (repeat (first | refine hGx _ ?_ | refine hNx _ ?_ | refine W_skip ?_ | refine W_exit ?_ | refine W_ret ?_ | refine W_label ?_ | refine W_scope ?_ | refine W_block ?_ | refine W_seq ?_ | ((first | refine tS fun N hNx => ?_ | refine WL_gE rfl rfl (by kernel_rfl) (by kernel_rfl) fun G hGx => ?_ | refine vcOpsS_sound (by kernel_rfl) ?_ | refine W_ifE fun A B hAx hBx => ?_); refine evT ?_; (first | refine hGx _ ?_ | refine hNx _ ?_ | refine hAx ?_ | refine hBx ?_ | skip)))); (try clear fs))
    exact ⟨hil, gdf, g0, g3, g8, g9, rfl, gj⟩
  have q2 : ((k : Int) < ((x.st.length + 1 : Nat) : Int)) = True := eq_true (by omega)
  have w4 : IntKind.i64.wrap (((fstG b.g i + k : Nat) : Int) + 1) = ((fstG b.g i + (k + 1) : Nat) : Int) := by rw [wrap_i64_of (by omega)]; omega
  have w5 : IntKind.i64.wrap ((k : Int) + 1) = ((k + 1 : Nat) : Int) := by rw [wrap_i64_of (by omega)]; omega
  have hpk := hpre (k + 1) (by omega)
  rw [blkP_succ, ← List.append_assoc] at hpk
  (have fs := And.intro g0 (And.intro g3 (And.intro g4 (And.intro g18 (And.intro g19 (And.intro @i64.eq_1 q2))))); (iterate 11 (first | refine hGx _ ?_ | refine hNx _ ?_ | refine W_skip ?_ | refine W_exit ?_ | refine W_ret ?_ | refine W_label ?_ | refine W_scope ?_ | refine W_block ?_ | refine W_seq ?_ | ((first | refine tS fun N hNx => ?_ | refine WL_gE rfl rfl (by kernel_rfl) (by kernel_rfl) fun G hGx => ?_ | refine vcOpsS_sound (by kernel_rfl) ?_ | refine W_ifE fun A B hAx hBx => ?_); refine evT ?_; (first | refine hGx _ ?_ | refine hNx _ ?_ | refine hAx ?_ | refine hBx ?_ | skip)))); (try clear fs))
  refine W_cut (5) (by kernel_rfl) ?_; simp (maxSteps := 4000000) only [vX, vB, vT, vZ, vcOps, isCall, mmV, lkV, muV, keyVal, keyVals, mget_nil, ↓selV_eq, eqK, stepOp, clV, biV, bnU, nilU, binV, bInt, bStr, bNilP, bNilS, bNilM, nilOp, D.nilPtr, D.nilSl, D.nilMap, isBoolTy, unV, cwV, cvV, elsP, partV, fieldsOf, fieldV, faV, iaV, ixV, ldC, ldV, stV, D.cells, putAt, bxV, alV, bldD, placesOf, allSized, bdV, bsV, rowsD, mkV, bdN, slV, newsP, TD.notInt, TD.agg, azV, clrV, cpyV, cpV, lenV, minV, maxV, ncV, exV, condV, retV, thenQ, blockQ, Value.oneCell', forall_const, true_implies, ne_eq, reduceCtorEq, false_implies, eq_self, if_true, if_false, ↓reduceIte, Nat.reduceEqDiff, Int.reduceLE, Int.reduceLT, Int.reduceNeg, Int.reduceToNat, Nat.reduceAdd, Nat.reduceMul, Nat.reduceLeDiff, Nat.reduceMod, Nat.reduceSub, Int.reduceEq, Int.reduceNe, Int.reduceAdd, Int.reduceSub, Int.reduceMul, implies_true, apV, g0, g3, g4, g18, g19, i64]
  refine WL_cons rfl (WO_yield (allP b.g i ++ blkP b.g i k) (fstG b.g i + k, i, k) rfl rfl rfl (by simp [okd]) hY hpk gj rfl (fun H' hj2 => ?_) fun H' hj2 => ?_)
  · (have fs := And.intro g0 (And.intro g3 (And.intro g4 (And.intro g18 (And.intro g19 (And.intro @i64.eq_1 (And.intro w4 w5)))))); (repeat (first | refine hGx _ ?_ | refine hNx _ ?_ | refine W_skip ?_ | refine W_exit ?_ | refine W_ret ?_ | refine W_label ?_ | refine W_scope ?_ | refine W_block ?_ | refine W_seq ?_ | ((first | refine tS fun N hNx => ?_ | refine WL_gE rfl rfl (by kernel_rfl) (by kernel_rfl) fun G hGx => ?_ | refine vcOpsS_sound (by kernel_rfl) ?_ | refine W_ifE fun A B hAx hBx => ?_); refine evT ?_; (first | refine hGx _ ?_ | refine hNx _ ?_ | refine hAx ?_ | refine hBx ?_ | skip)))); (try clear fs))
    exact ⟨hkl, gdf, g0, rfl, g4, g8, g9, g10, g18, rfl, by rw [blkP_succ, ← List.append_assoc]; exact hj2⟩
  · (have fs := And.intro g0 (And.intro g3 (And.intro g4 (And.intro g18 (And.intro g19 @i64.eq_1)))); (repeat (first | refine hGx _ ?_ | refine hNx _ ?_ | refine W_skip ?_ | refine W_exit ?_ | refine W_ret ?_ | refine W_label ?_ | refine W_scope ?_ | refine W_block ?_ | refine W_seq ?_ | ((first | refine tS fun N hNx => ?_ | refine WL_gE rfl rfl (by kernel_rfl) (by kernel_rfl) fun G hGx => ?_ | refine vcOpsS_sound (by kernel_rfl) ?_ | refine W_ifE fun A B hAx hBx => ?_); refine evT ?_; (first | refine hGx _ ?_ | refine hNx _ ?_ | refine hAx ?_ | refine hBx ?_ | skip)))); (try clear fs))
    exact hret _ _ (.inr rfl) gdf (.inr ⟨_, hj2⟩)
theorem all_N (b : GBdy) (H : Heap) : Does Try.prog 25 [.agg (gbdD b)] H fun d H' => d = .fn 30 [.rp (gbdD b)] ∧ H = H' := by
  refine does_of _ _ Try.func25 rfl rfl Try.ntmps25 Try.results25 (by simp only [List.length_cons, List.length_nil]; omega) fun w0 Q hret => ?_
  (have fs := And.intro @i64.eq_1 @gbdD.eq_1; (repeat (first | refine hGx _ ?_ | refine hNx _ ?_ | refine W_skip ?_ | refine W_exit ?_ | refine W_ret ?_ | refine W_label ?_ | refine W_scope ?_ | refine W_block ?_ | refine W_seq ?_ | ((first | refine tS fun N hNx => ?_ | refine WL_gE rfl rfl (by kernel_rfl) (by kernel_rfl) fun G hGx => ?_ | refine vcOpsS_sound (by kernel_rfl) ?_ | refine W_ifE fun A B hAx hBx => ?_); refine evT ?_; (first | refine hGx _ ?_ | refine hNx _ ?_ | refine hAx ?_ | refine hBx ?_ | skip)))); (try clear fs))
  intro c1 hc1
  refine hNx _ ?_
  refine W_frzp 1 rfl (Heap.upd_same _ _ _) rfl ?_; simp only [St.frzp, put_H, wdf_H, withH_H, withH_put, wdf_withH, withH_withH, init_H, init_withH, Heap.del_upd_same, Heap.del_none hc1, withH_self]
  (have fs := @i64.eq_1; (repeat (first | refine hGx _ ?_ | refine hNx _ ?_ | refine W_skip ?_ | refine W_exit ?_ | refine W_ret ?_ | refine W_label ?_ | refine W_scope ?_ | refine W_block ?_ | refine W_seq ?_ | ((first | refine tS fun N hNx => ?_ | refine WL_gE rfl rfl (by kernel_rfl) (by kernel_rfl) fun G hGx => ?_ | refine vcOpsS_sound (by kernel_rfl) ?_ | refine W_ifE fun A B hAx hBx => ?_); refine evT ?_; (first | refine hGx _ ?_ | refine hNx _ ?_ | refine hAx ?_ | refine hBx ?_ | skip)))); (try clear fs))
  (first | (show Q .ret _) | (show Q .normal _) | skip); refine hret _ _ (by first | exact .inr rfl | exact .inl rfl) (by first | rfl | assumption | (simp only [put_df, withH_df]; assumption)) ?_; have fs := @i64.eq_1; refine evT ?_; clear fs
  exact ⟨_, Heap.le_refl _, rfl, rfl⟩
end Go.Proofs.Ytdbeimlancnncaa
/- package points: Index. -/
namespace Go.Proofs.Ytdbeimlancnncaa
open Go.RowKit
set_option linter.unusedVariables false
set_option maxRecDepth 100000
set_option linter.unusedSimpArgs false
theorem eqTy_loc : EqTy Try.prog 72 [false, false] :=
  eqTy_struct2 (f := (Try.prog.fieldsOf 72)[0]!) (g := (Try.prog.fieldsOf 72)[1]!) (by kernel_rfl) (by kernel_rfl) (by kernel_rfl) (by decide +kernel) (by decide +kernel) (by kernel_rfl) (by kernel_rfl) ⟨by kernel_rfl, by kernel_rfl⟩ ⟨by kernel_rfl, by kernel_rfl⟩
theorem mem_allP {G : Gr} {n : Nat} {x : Nat × Nat × Nat} : x ∈ allP G n ↔ x.2.1 < n ∧ x.2.2 ≤ (G.getD x.2.1 (0, [])).1 ∧ x.1 = fstG G x.2.1 + x.2.2 := by
  unfold allP blkP
  rw [List.mem_flatMap]
  constructor
  · rintro ⟨i, hi, h⟩
    obtain ⟨k, hk, rfl⟩ := List.mem_map.1 h
    rw [List.mem_range] at hi hk
    exact ⟨hi, by simp only; omega, rfl⟩
  · rintro ⟨h1, h2, h3⟩
    exact ⟨x.2.1, List.mem_range.2 h1, List.mem_map.2 ⟨x.2.2, List.mem_range.2 (by omega), by rw [← h3]⟩⟩
def IdI (H : Heap) (i k : Int) (c6 c7 : Nat) (pre : List (Nat × Nat × Nat)) (Hc : Heap) : Prop := (∀ x ∈ pre, ¬ ((x.2.1 : Int) = i ∧ (x.2.2 : Int) = k)) ∧ H.le Hc ∧ Hc c6 = some (.row 3 0 1 [[i64 0]]) ∧ Hc c7 = some (.row 4 0 1 [[.val (.bool false)]])
def IdX (H : Heap) (b : GBdy) (i k : Int) (c6 c7 : Nat) (e : Exit) (Hc : Heap) : Prop := e = .ret ∧ H.le Hc ∧ ∃ x, x ∈ allP b.g b.g.length ∧ ((x.2.1 : Int) = i ∧ (x.2.2 : Int) = k) ∧ Hc c6 = some (.row 3 0 1 [[i64 x.1]]) ∧ Hc c7 = some (.row 4 0 1 [[.val (.bool true)]])
/-- A heap without its objects. -/
def Heap.nob (H : Heap) : Heap := fun b => match H b with
  | some (.obj _) => Option.none
  | x => x
theorem nob_no (H : Heap) : ∀ b o, H.nob b ≠ some (.obj o) := fun b o h => by
  unfold Heap.nob at h
  split at h
  · cases h
  · rename_i hx; exact hx o h
theorem nob_le (H : Heap) : H.nob.le H := fun b x h => by
  unfold Heap.nob at h
  split at h
  · cases h
  · exact h
theorem nob_some {H : Heap} {b : Nat} {x : HObj} (h : H b = some x) (hx : ∀ o, x ≠ .obj o) : H.nob b = some x := by
  unfold Heap.nob
  split
  · rename_i o e
    rw [h] at e
    injection e with e
    exact absurd e (hx o)
  · exact h
theorem nob_none {H : Heap} {b : Nat} (h : H b = Option.none) : H.nob b = Option.none := by
  unfold Heap.nob; rw [h]
theorem nob_full {H H1 Hc : Heap} (h1 : H.nob.le Hc) (h2 : H.le H1) (h3 : objs H1 Hc) : H.le Hc := fun b x hb => by
  cases x with
  | obj o => exact h3 b o (h2 b _ hb)
  | row t o sz els => exact h1 b _ (nob_some hb (by simp))
  | map m => exact h1 b _ (nob_some hb (by simp))
  | hid => exact h1 b _ (nob_some hb (by simp))
theorem gl_nob {H : Heap} {e : TypeId} {sz : Nat} {els : List (List D)} {d : D} {Hc : Heap} {ob : Option Nat} (h : Gl H.nob e sz els d Hc ob) (hle : H.le Hc) : Gl H e sz els d Hc ob := by
  rcases h with h | ⟨c, o, h1, h2, h3, h4⟩
  · exact .inl h
  · refine .inr ⟨c, o, h1, h2, ?_, h4⟩
    cases hx : H c with
    | none => rfl
    | some x =>
      cases x with
      | obj o => have := hle _ _ hx; rw [h4] at this; cases this
      | row t o sz els => rw [nob_some hx (by simp)] at h3; cases h3
      | map m => rw [nob_some hx (by simp)] at h3; cases h3
      | hid => rw [nob_some hx (by simp)] at h3; cases h3
theorem le_rle {H0 H H' : Heap} (hno : ∀ b o, H0 b ≠ some (.obj o)) (h : H0.le H) (hr : rle H H') : H0.le H' := fun b x hb => hr b x (h b x hb) (fun o e => hno b o (by rw [hb, e]))
set_option maxHeartbeats 1000000 in
theorem index_N (b : GBdy) (i k : Int) (H : Heap) (hc : cntG b.g ≤ 1000000) : Does Try.prog 11 [.agg (gbdD b), i64 i, i64 k] H fun d H' => d = idxD b i k ∧ H = H' := by
  refine does_ofM _ _ Try.func11 rfl rfl Try.ntmps11 Try.results11 (by simp only [List.length_cons, List.length_nil]; omega) fun w0 Q hret => ?_
  (have fs := And.intro @i64.eq_1 @gbdD.eq_1; (repeat (first | refine hGx _ ?_ | refine hNx _ ?_ | refine W_skip ?_ | refine W_exit ?_ | refine W_ret ?_ | refine W_label ?_ | refine W_scope ?_ | refine W_block ?_ | refine W_seq ?_ | ((first | refine tS fun N hNx => ?_ | refine WL_gE rfl rfl (by kernel_rfl) (by kernel_rfl) fun G hGx => ?_ | refine vcOpsS_sound (by kernel_rfl) ?_ | refine W_ifE fun A B hAx hBx => ?_); refine evT ?_; (first | refine hGx _ ?_ | refine hNx _ ?_ | refine hAx ?_ | refine hBx ?_ | skip)))); (try clear fs))
  intro c3 hc3 c4 hc4 c5 hc5 c6 hc6 c7 hc7
  refine hNx _ ?_
  obtain ⟨n43, hc4⟩ := Heap.upd_none.1 hc4
  obtain ⟨n54, hc5⟩ := Heap.upd_none.1 hc5
  obtain ⟨n53, hc5⟩ := Heap.upd_none.1 hc5
  obtain ⟨n65, hc6⟩ := Heap.upd_none.1 hc6
  obtain ⟨n64, hc6⟩ := Heap.upd_none.1 hc6
  obtain ⟨n63, hc6⟩ := Heap.upd_none.1 hc6
  obtain ⟨n76, hc7⟩ := Heap.upd_none.1 hc7
  obtain ⟨n75, hc7⟩ := Heap.upd_none.1 hc7
  obtain ⟨n74, hc7⟩ := Heap.upd_none.1 hc7
  obtain ⟨n73, hc7⟩ := Heap.upd_none.1 hc7
  refine W_frzp 3 rfl ((Heap.upd_ne n73.symm).trans ((Heap.upd_ne n63.symm).trans ((Heap.upd_ne n53.symm).trans ((Heap.upd_ne n43.symm).trans (Heap.upd_same _ _ _))))) rfl ?_
  refine W_frzp 4 rfl ((Heap.del_ne n43).trans ((Heap.upd_ne n74.symm).trans ((Heap.upd_ne n64.symm).trans ((Heap.upd_ne n54.symm).trans (Heap.upd_same _ _ _))))) rfl ?_
  refine W_frzp 5 rfl ((Heap.del_ne n54).trans ((Heap.del_ne n53).trans ((Heap.upd_ne n75.symm).trans ((Heap.upd_ne n65.symm).trans (Heap.upd_same _ _ _))))) rfl ?_
  refine W_less ((H.upd c6 (.row 3 0 1 [[i64 0]])).upd c7 (.row 4 0 1 [[.val (.bool false)]])) (fun x z hz => ?_) ?_
  · show (((((((((H.upd c3 _).upd c4 _).upd c5 _).upd c6 _).upd c7 _).del c3).del c4).del c5)) x = _
    by_cases e7 : x = c7
    · subst e7
      rw [Heap.upd_same] at hz
      rw [Heap.del_ne n75, Heap.del_ne n74, Heap.del_ne n73, Heap.upd_same]
      exact hz
    rw [Heap.upd_ne e7] at hz
    by_cases e6 : x = c6
    · subst e6
      rw [Heap.upd_same] at hz
      rw [Heap.del_ne n65, Heap.del_ne n64, Heap.del_ne n63, Heap.upd_ne n76.symm, Heap.upd_same]
      exact hz
    rw [Heap.upd_ne e6] at hz
    have e3 : x ≠ c3 := fun e => by rw [e, hc3] at hz; cases hz
    have e4 : x ≠ c4 := fun e => by rw [e, hc4] at hz; cases hz
    have e5 : x ≠ c5 := fun e => by rw [e, hc5] at hz; cases hz
    rw [Heap.del_ne e5, Heap.del_ne e4, Heap.del_ne e3, Heap.upd_ne e7, Heap.upd_ne e6, Heap.upd_ne e5, Heap.upd_ne e4, Heap.upd_ne e3]
    exact hz
  have hle0 : H.le ((H.upd c6 (.row 3 0 1 [[i64 0]])).upd c7 (.row 4 0 1 [[.val (.bool false)]])) := Heap.le_put (Heap.le_put (Heap.le_refl _) hc6) hc7
  have e60 : ((H.upd c6 (.row 3 0 1 [[i64 0]])).upd c7 (.row 4 0 1 [[.val (.bool false)]])) c6 = some (.row 3 0 1 [[i64 0]]) := (Heap.upd_ne n76.symm).trans (Heap.upd_same _ _ _)
  have e70 : ((H.upd c6 (.row 3 0 1 [[i64 0]])).upd c7 (.row 4 0 1 [[.val (.bool false)]])) c7 = some (.row 4 0 1 [[.val (.bool false)]]) := Heap.upd_same _ _ _
  obtain ⟨H2, hH2⟩ : ∃ H2, H2 = (H.upd c6 (.row 3 0 1 [[i64 0]])).upd c7 (.row 4 0 1 [[.val (.bool false)]]) := ⟨_, rfl⟩
  rw [← hH2] at hle0 e60 e70 ⊢
  simp only [St.frzp, List.drop]
  (have fs := @i64.eq_1; (repeat (first | refine hGx _ ?_ | refine hNx _ ?_ | refine W_skip ?_ | refine W_exit ?_ | refine W_ret ?_ | refine W_label ?_ | refine W_scope ?_ | refine W_block ?_ | refine W_seq ?_ | ((first | refine tS fun N hNx => ?_ | refine WL_gE rfl rfl (by kernel_rfl) (by kernel_rfl) fun G hGx => ?_ | refine vcOpsS_sound (by kernel_rfl) ?_ | refine W_ifE fun A B hAx hBx => ?_); refine evT ?_; (first | refine hGx _ ?_ | refine hNx _ ?_ | refine hAx ?_ | refine hBx ?_ | skip)))); (try clear fs))
  refine (all_N b _).mono ?_
  rintro d _ ⟨rfl, rfl⟩
  (have fs := @i64.eq_1; (repeat (first | refine hGx _ ?_ | refine hNx _ ?_ | refine W_skip ?_ | refine W_exit ?_ | refine W_ret ?_ | refine W_label ?_ | refine W_scope ?_ | refine W_block ?_ | refine W_seq ?_ | ((first | refine tS fun N hNx => ?_ | refine WL_gE rfl rfl (by kernel_rfl) (by kernel_rfl) fun G hGx => ?_ | refine vcOpsS_sound (by kernel_rfl) ?_ | refine W_ifE fun A B hAx hBx => ?_); refine evT ?_; (first | refine hGx _ ?_ | refine hNx _ ?_ | refine hAx ?_ | refine hBx ?_ | skip)))); (try clear fs))
  refine W_gen (fun s => s.df = [] ∧ s.fr 4 = .rp [i64 i] ∧ s.fr 5 = .rp [i64 k] ∧ s.fr 6 = .ep c6 0 1 0 0 ∧ s.fr 7 = .ep c7 0 1 0 0 ∧ s.fr 11 = .fn 30 [.rp (gbdD b)] ∧ s.H = H2) ⟨rfl, rfl, rfl, rfl, rfl, rfl, rfl⟩ ?_
  rintro s ⟨hdf, f4, f5, f6, f7, f11, hsH⟩
  have hET := eq_true eqTy_loc
  refine W_rangeFunc rfl (all_it b hc) f11 (fun _ _ => trivial) (by simp) (fun _ => rfl) (IdI H.nob i k c6 c7) (fun e _ => IdX H.nob b i k c6 c7 e) ?_ ?_ ?_ ?_ ?_ ?_
  · rintro pre H1 H2 hr ⟨h1, h2, h3, h4⟩
    exact ⟨h1, le_rle (nob_no H) h2 hr, hr _ _ h3 (by simp), hr _ _ h4 (by simp)⟩
  · rintro e pre H1 H2 hr ⟨h1, h2, x, hx, hxi, h3, h4⟩
    exact ⟨h1, le_rle (nob_no H) h2 hr, x, hx, hxi, hr _ _ h3 (by simp), hr _ _ h4 (by simp)⟩
  · exact ⟨by simp, Heap.le_trans (nob_le H) (by rw [hsH]; exact hle0), by rw [hsH]; exact e60, by rw [hsH]; exact e70⟩
  · rintro l w1 pre x Hc o hpre ⟨g1, g2, g3, g4⟩ hob hl
    rw [ptD, rst2]
    (have fs := And.intro @i64.eq_1 (And.intro wdf_fr (And.intro wdf_H (And.intro wdf_df (And.intro wdf_withH hdf)))); (repeat (first | refine hGx _ ?_ | refine hNx _ ?_ | refine W_skip ?_ | refine W_exit ?_ | refine W_ret ?_ | refine W_label ?_ | refine W_scope ?_ | refine W_block ?_ | refine W_seq ?_ | ((first | refine tS fun N hNx => ?_ | refine WL_gE rfl rfl (by kernel_rfl) (by kernel_rfl) fun G hGx => ?_ | refine vcOpsS_sound (by kernel_rfl) ?_ | refine W_ifE fun A B hAx hBx => ?_); refine evT ?_; (first | refine hGx _ ?_ | refine hNx _ ?_ | refine hAx ?_ | refine hBx ?_ | skip)))); (try clear fs))
    intro b9 hb9
    refine hNx _ ?_
    simp only [thenQ_n]
    refine ⟨rfl, objs.new (objs_refl _) hb9, fun w2 y => ?_⟩
    have n5 : ∀ c x, Hc c = some x → c ≠ b9 := fun c x h e => by rw [e, hb9] at h; cases h
    have nl : ∀ c t o sz els, Hc c = some (.row t o sz els) → c ≠ l := fun c t o sz els h e => by rw [e, hl] at h; cases h
    have n6 := nl _ _ _ _ _ g3
    have n7 := nl _ _ _ _ _ g4
    have l5 := n5 _ _ hl
    have hxm : x ∈ allP b.g b.g.length := hpre.subset (by simp)
    refine W_frzp 9 rfl (b := b9) (by simp only [put_H, wdf_H, withH_H]; rw [Heap.upd_ne (Ne.symm l5), Heap.upd_same]) rfl ?_
    simp only [St.frzp, put_H, wdf_H, withH_H, withH_put, wdf_withH, withH_withH, Heap.del_upd_ne (Ne.symm l5), Heap.del_upd_same, Heap.del_none hb9, List.drop]
    have hno5 := fun (x : HObj) (hx : ∀ o, x ≠ .obj o) => objs_drop (H := Hc) (b := b9) (l := l) (y := y) hx
    by_cases hm : (x.2.1 : Int) = i ∧ (x.2.2 : Int) = k
    · have q1 : ((x.2.1 : Int) = i) = True := eq_true hm.1
      have q2 : ((x.2.2 : Int) = k) = True := eq_true hm.2
      have r6 : (Hc.upd l (.obj y)) c6 = some (.row 3 0 1 [[i64 0]]) := (Heap.upd_ne n6).trans g3
      have r7 : ∀ z, ((Hc.upd l (.obj y)).upd c6 z) c7 = some (.row 4 0 1 [[.val (.bool false)]]) := fun z => (Heap.upd_ne n76).trans ((Heap.upd_ne n7).trans g4)
      (have fs := And.intro f4 (And.intro f5 (And.intro f6 (And.intro f7 (And.intro @i64.eq_1 (And.intro wdf_fr (And.intro wdf_H (And.intro wdf_df (And.intro wdf_withH (And.intro q1 (And.intro q2 (And.intro hET (And.intro r6 r7)))))))))))); (repeat (first | refine hGx _ ?_ | refine hNx _ ?_ | refine W_skip ?_ | refine W_exit ?_ | refine W_ret ?_ | refine W_label ?_ | refine W_scope ?_ | refine W_block ?_ | refine W_seq ?_ | ((first | refine tS fun N hNx => ?_ | refine WL_gE rfl rfl (by kernel_rfl) (by kernel_rfl) fun G hGx => ?_ | refine vcOpsS_sound (by kernel_rfl) ?_ | refine W_ifE fun A B hAx hBx => ?_); refine evT ?_; (first | refine hGx _ ?_ | refine hNx _ ?_ | refine hAx ?_ | refine hBx ?_ | skip)))); (try clear fs))
      simp only [roundQ_r, blockQ_r, thenQ_r]
      refine ⟨rfl, ((hno5 _ (by simp)).row r6 (by simp)).row (r7 _) (by simp), rfl, ?_, x, hxm, hm, (Heap.upd_ne n76.symm).trans (Heap.upd_same _ _ _), Heap.upd_same _ _ _⟩
      exact Heap.le_put (Heap.le_put (le_rle (nob_no H) g2 (rle_obj hl)) (nob_none hc6)) (nob_none hc7)
    · have hnm : ∀ z ∈ pre ++ [x], ¬ ((z.2.1 : Int) = i ∧ (z.2.2 : Int) = k) := fun z hz => by
        rcases List.mem_append.1 hz with hz | hz
        · exact g1 z hz
        · rw [List.mem_singleton] at hz; subst hz; exact hm
      have hend : objs (((Hc.upd b9 (.row 72 0 2 [[i64 x.2.1, i64 x.2.2]])).upd l (.obj y))) (Hc.upd l (.obj y)) ∧ IdI H.nob i k c6 c7 (pre ++ [x]) (Hc.upd l (.obj y)) := ⟨hno5 _ (by simp), hnm, le_rle (nob_no H) g2 (rle_obj hl), (Heap.upd_ne n6).trans g3, (Heap.upd_ne n7).trans g4⟩
      by_cases h1 : (x.2.1 : Int) = i
      · have q1 : ((x.2.1 : Int) = i) = True := eq_true h1
        have q2 : ((x.2.2 : Int) = k) = False := eq_false fun h => hm ⟨h1, h⟩
        (have fs := And.intro f4 (And.intro f5 (And.intro @i64.eq_1 (And.intro wdf_fr (And.intro wdf_H (And.intro wdf_df (And.intro wdf_withH (And.intro q1 (And.intro q2 hET)))))))); (repeat (first | refine hGx _ ?_ | refine hNx _ ?_ | refine W_skip ?_ | refine W_exit ?_ | refine W_ret ?_ | refine W_label ?_ | refine W_scope ?_ | refine W_block ?_ | refine W_seq ?_ | ((first | refine tS fun N hNx => ?_ | refine WL_gE rfl rfl (by kernel_rfl) (by kernel_rfl) fun G hGx => ?_ | refine vcOpsS_sound (by kernel_rfl) ?_ | refine W_ifE fun A B hAx hBx => ?_); refine evT ?_; (first | refine hGx _ ?_ | refine hNx _ ?_ | refine hAx ?_ | refine hBx ?_ | skip)))); (try clear fs))
        exact ⟨rfl, hend⟩
      · have q1 : ((x.2.1 : Int) = i) = False := eq_false h1
        (have fs := And.intro f4 (And.intro f5 (And.intro @i64.eq_1 (And.intro wdf_fr (And.intro wdf_H (And.intro wdf_df (And.intro wdf_withH (And.intro q1 (And.intro hET @Bool.false_and)))))))); (repeat (first | refine hGx _ ?_ | refine hNx _ ?_ | refine W_skip ?_ | refine W_exit ?_ | refine W_ret ?_ | refine W_label ?_ | refine W_scope ?_ | refine W_block ?_ | refine W_seq ?_ | ((first | refine tS fun N hNx => ?_ | refine WL_gE rfl rfl (by kernel_rfl) (by kernel_rfl) fun G hGx => ?_ | refine vcOpsS_sound (by kernel_rfl) ?_ | refine W_ifE fun A B hAx hBx => ?_); refine evT ?_; (first | refine hGx _ ?_ | refine hNx _ ?_ | refine hAx ?_ | refine hBx ?_ | skip)))); (try clear fs))
        exact ⟨rfl, hend⟩
  · rintro Hc M ⟨g1, g2, g3, g4⟩ hob hD hDn
    rw [df_wdf, blockQ_n, thenQ_n, hdf]
    have hM2 : c6 ≠ M := fun e => by rw [e, hD] at g3; cases g3
    have hM3 : c7 ≠ M := fun e => by rw [e, hD] at g4; cases g4
    have r7 : ∀ z, (Hc.upd c6 z) c7 = some (.row 4 0 1 [[.val (.bool false)]]) := fun z => (Heap.upd_ne n76).trans g4
    have hres : idxD b i k = _ := idxD_f fun ⟨⟨h1, h2⟩, h3, h4⟩ => by
      refine g1 (fstG b.g i.toNat + k.toNat, i.toNat, k.toNat) (mem_allP.2 ⟨?_, ?_, rfl⟩) ⟨Int.toNat_of_nonneg h1, Int.toNat_of_nonneg h3⟩
      · rw [b.g_len]; show i.toNat < _; omega
      · have h5 : i.toNat < b.bl.length := by omega
        simp only
        rw [List.getD_eq_getElem?_getD, List.getElem?_eq_getElem (by rw [b.g_len]; exact h5), b.g_get h5]
        simp only [Option.getD_some]
        omega
    (have fs := And.intro f6 (And.intro f7 (And.intro @i64.eq_1 (And.intro g3 r7))); (repeat (first | refine hGx _ ?_ | refine hNx _ ?_ | refine W_skip ?_ | refine W_exit ?_ | refine W_ret ?_ | refine W_label ?_ | refine W_scope ?_ | refine W_block ?_ | refine W_seq ?_ | ((first | refine tS fun N hNx => ?_ | refine WL_gE rfl rfl (by kernel_rfl) (by kernel_rfl) fun G hGx => ?_ | refine vcOpsS_sound (by kernel_rfl) ?_ | refine W_ifE fun A B hAx hBx => ?_); refine evT ?_; (first | refine hGx _ ?_ | refine hNx _ ?_ | refine hAx ?_ | refine hBx ?_ | skip)))); (try clear fs))
    refine hret _ _ (.inr rfl) ?_ ?_
    · simp (maxSteps := 4000000) only [vX, vB, vT, vZ, vcOps, isCall, mmV, lkV, muV, keyVal, keyVals, mget_nil, ↓selV_eq, eqK, stepOp, clV, biV, bnU, nilU, binV, bInt, bStr, bNilP, bNilS, bNilM, nilOp, D.nilPtr, D.nilSl, D.nilMap, isBoolTy, unV, cwV, cvV, elsP, partV, fieldsOf, fieldV, faV, iaV, ixV, ldC, ldV, stV, D.cells, putAt, bxV, alV, bldD, placesOf, allSized, bdV, bsV, rowsD, mkV, bdN, slV, newsP, TD.notInt, TD.agg, azV, clrV, cpyV, cpV, lenV, minV, maxV, ncV, exV, condV, retV, thenQ, blockQ, Value.oneCell', forall_const, true_implies, ne_eq, reduceCtorEq, false_implies, eq_self, if_true, if_false, ↓reduceIte, Nat.reduceEqDiff, Int.reduceLE, Int.reduceLT, Int.reduceNeg, Int.reduceToNat, Nat.reduceAdd, Nat.reduceMul, Nat.reduceLeDiff, Nat.reduceMod, Nat.reduceSub, Int.reduceEq, Int.reduceNe, Int.reduceAdd, Int.reduceSub, Int.reduceMul, implies_true, wdf_fr, wdf_H, wdf_df, wdf_withH, thenQ_n, thenQ_r, blockQ_n, blockQ_r, roundQ_n, roundQ_r, noGotoQ_n, noGotoQ_r, noGotoQ_e, f6]
      refine mk1 ?_
      rw [Heap.upd_ne (Ne.symm hM3), Heap.upd_ne (Ne.symm hM2)]; exact hD
    · simp (maxSteps := 4000000) only [vX, vB, vT, vZ, vcOps, isCall, mmV, lkV, muV, keyVal, keyVals, mget_nil, ↓selV_eq, eqK, stepOp, clV, biV, bnU, nilU, binV, bInt, bStr, bNilP, bNilS, bNilM, nilOp, D.nilPtr, D.nilSl, D.nilMap, isBoolTy, unV, cwV, cvV, elsP, partV, fieldsOf, fieldV, faV, iaV, ixV, ldC, ldV, stV, D.cells, putAt, bxV, alV, bldD, placesOf, allSized, bdV, bsV, rowsD, mkV, bdN, slV, newsP, TD.notInt, TD.agg, azV, clrV, cpyV, cpV, lenV, minV, maxV, ncV, exV, condV, retV, thenQ, blockQ, Value.oneCell', forall_const, true_implies, ne_eq, reduceCtorEq, false_implies, eq_self, if_true, if_false, ↓reduceIte, Nat.reduceEqDiff, Int.reduceLE, Int.reduceLT, Int.reduceNeg, Int.reduceToNat, Nat.reduceAdd, Nat.reduceMul, Nat.reduceLeDiff, Nat.reduceMod, Nat.reduceSub, Int.reduceEq, Int.reduceNe, Int.reduceAdd, Int.reduceSub, Int.reduceMul, implies_true, wdf_fr, wdf_H, wdf_df, wdf_withH, thenQ_n, thenQ_r, blockQ_n, blockQ_r, roundQ_n, roundQ_r, noGotoQ_n, noGotoQ_r, noGotoQ_e, f6]
      rw [offM1]
      simp (maxSteps := 4000000) only [vX, vB, vT, vZ, vcOps, isCall, mmV, lkV, muV, keyVal, keyVals, mget_nil, ↓selV_eq, eqK, stepOp, clV, biV, bnU, nilU, binV, bInt, bStr, bNilP, bNilS, bNilM, nilOp, D.nilPtr, D.nilSl, D.nilMap, isBoolTy, unV, cwV, cvV, elsP, partV, fieldsOf, fieldV, faV, iaV, ixV, ldC, ldV, stV, D.cells, putAt, bxV, alV, bldD, placesOf, allSized, bdV, bsV, rowsD, mkV, bdN, slV, newsP, TD.notInt, TD.agg, azV, clrV, cpyV, cpV, lenV, minV, maxV, ncV, exV, condV, retV, thenQ, blockQ, Value.oneCell', forall_const, true_implies, ne_eq, reduceCtorEq, false_implies, eq_self, if_true, if_false, ↓reduceIte, Nat.reduceEqDiff, Int.reduceLE, Int.reduceLT, Int.reduceNeg, Int.reduceToNat, Nat.reduceAdd, Nat.reduceMul, Nat.reduceLeDiff, Nat.reduceMod, Nat.reduceSub, Int.reduceEq, Int.reduceNe, Int.reduceAdd, Int.reduceSub, Int.reduceMul, implies_true, wdf_fr, wdf_H, wdf_df, wdf_withH, thenQ_n, thenQ_r, blockQ_n, blockQ_r, roundQ_n, roundQ_r, noGotoQ_n, noGotoQ_r, noGotoQ_e, f6, f7, Heap.upd_ne hM2, Heap.upd_ne hM3, Heap.upd_ne n76.symm]
      have g2 := nob_full g2 (H1 := s.H) (by rw [hsH]; exact hle0) hob
      refine ⟨H, Heap.le_put (Heap.le_put (Heap.le_put g2 hc6) hc7) (Heap.none_of (H' := s.H) (by rw [hsH]; exact hle0) hDn), hres.symm, rfl⟩
  · rintro e c pre Hc M hj ⟨rfl, h2, x, hx, hxi, h3, h4⟩ hob hD hDn
    rw [df_wdf, hdf]
    have hD2 : c6 ≠ M := fun e => by rw [e, hD] at h3; cases h3
    have hD3 : c7 ≠ M := fun e => by rw [e, hD] at h4; cases h4
    obtain ⟨m1, m2, m3⟩ := mem_allP.1 hx
    rw [b.g_len] at m1
    have hix : idxI b i k := by
      rw [List.getD_eq_getElem?_getD, List.getElem?_eq_getElem (by rw [b.g_len]; exact m1), b.g_get m1] at m2
      simp only [Option.getD_some] at m2
      obtain ⟨rfl, rfl⟩ := hxi
      exact ⟨⟨by omega, by omega⟩, by omega, by simp only [Int.toNat_natCast]; omega⟩
    have hres : idxD b i k = .tup [i64 x.1, .val (.bool true)] := by
      rw [idxD_t hix, m3]
      obtain ⟨rfl, rfl⟩ := hxi
      simp only [Int.toNat_natCast]
      rfl
    simp (maxSteps := 4000000) only [vX, vB, vT, vZ, vcOps, isCall, mmV, lkV, muV, keyVal, keyVals, mget_nil, ↓selV_eq, eqK, stepOp, clV, biV, bnU, nilU, binV, bInt, bStr, bNilP, bNilS, bNilM, nilOp, D.nilPtr, D.nilSl, D.nilMap, isBoolTy, unV, cwV, cvV, elsP, partV, fieldsOf, fieldV, faV, iaV, ixV, ldC, ldV, stV, D.cells, putAt, bxV, alV, bldD, placesOf, allSized, bdV, bsV, rowsD, mkV, bdN, slV, newsP, TD.notInt, TD.agg, azV, clrV, cpyV, cpV, lenV, minV, maxV, ncV, exV, condV, retV, thenQ, blockQ, Value.oneCell', forall_const, true_implies, ne_eq, reduceCtorEq, false_implies, eq_self, if_true, if_false, ↓reduceIte, Nat.reduceEqDiff, Int.reduceLE, Int.reduceLT, Int.reduceNeg, Int.reduceToNat, Nat.reduceAdd, Nat.reduceMul, Nat.reduceLeDiff, Nat.reduceMod, Nat.reduceSub, Int.reduceEq, Int.reduceNe, Int.reduceAdd, Int.reduceSub, Int.reduceMul, implies_true, wdf_fr, wdf_H, wdf_df, wdf_withH, thenQ_n, thenQ_r, blockQ_n, blockQ_r, roundQ_n, roundQ_r, noGotoQ_n, noGotoQ_r, noGotoQ_e, f6]
    refine hret _ _ (.inr rfl) ?_ ?_
    · simp (maxSteps := 4000000) only [vX, vB, vT, vZ, vcOps, isCall, mmV, lkV, muV, keyVal, keyVals, mget_nil, ↓selV_eq, eqK, stepOp, clV, biV, bnU, nilU, binV, bInt, bStr, bNilP, bNilS, bNilM, nilOp, D.nilPtr, D.nilSl, D.nilMap, isBoolTy, unV, cwV, cvV, elsP, partV, fieldsOf, fieldV, faV, iaV, ixV, ldC, ldV, stV, D.cells, putAt, bxV, alV, bldD, placesOf, allSized, bdV, bsV, rowsD, mkV, bdN, slV, newsP, TD.notInt, TD.agg, azV, clrV, cpyV, cpV, lenV, minV, maxV, ncV, exV, condV, retV, thenQ, blockQ, Value.oneCell', forall_const, true_implies, ne_eq, reduceCtorEq, false_implies, eq_self, if_true, if_false, ↓reduceIte, Nat.reduceEqDiff, Int.reduceLE, Int.reduceLT, Int.reduceNeg, Int.reduceToNat, Nat.reduceAdd, Nat.reduceMul, Nat.reduceLeDiff, Nat.reduceMod, Nat.reduceSub, Int.reduceEq, Int.reduceNe, Int.reduceAdd, Int.reduceSub, Int.reduceMul, implies_true, wdf_fr, wdf_H, wdf_df, wdf_withH, thenQ_n, thenQ_r, blockQ_n, blockQ_r, roundQ_n, roundQ_r, noGotoQ_n, noGotoQ_r, noGotoQ_e, f6]
      exact mk1 hD
    · rw [wdf_df, offM1]
      simp (maxSteps := 4000000) only [vX, vB, vT, vZ, vcOps, isCall, mmV, lkV, muV, keyVal, keyVals, mget_nil, ↓selV_eq, eqK, stepOp, clV, biV, bnU, nilU, binV, bInt, bStr, bNilP, bNilS, bNilM, nilOp, D.nilPtr, D.nilSl, D.nilMap, isBoolTy, unV, cwV, cvV, elsP, partV, fieldsOf, fieldV, faV, iaV, ixV, ldC, ldV, stV, D.cells, putAt, bxV, alV, bldD, placesOf, allSized, bdV, bsV, rowsD, mkV, bdN, slV, newsP, TD.notInt, TD.agg, azV, clrV, cpyV, cpV, lenV, minV, maxV, ncV, exV, condV, retV, thenQ, blockQ, Value.oneCell', forall_const, true_implies, ne_eq, reduceCtorEq, false_implies, eq_self, if_true, if_false, ↓reduceIte, Nat.reduceEqDiff, Int.reduceLE, Int.reduceLT, Int.reduceNeg, Int.reduceToNat, Nat.reduceAdd, Nat.reduceMul, Nat.reduceLeDiff, Nat.reduceMod, Nat.reduceSub, Int.reduceEq, Int.reduceNe, Int.reduceAdd, Int.reduceSub, Int.reduceMul, implies_true, wdf_fr, wdf_H, wdf_df, wdf_withH, thenQ_n, thenQ_r, blockQ_n, blockQ_r, roundQ_n, roundQ_r, noGotoQ_n, noGotoQ_r, noGotoQ_e, f6, f7, Heap.upd_ne hD2, Heap.upd_ne hD3, h3, h4, i64]
      have h2 := nob_full h2 (H1 := s.H) (by rw [hsH]; exact hle0) hob
      exact ⟨H, Heap.le_put h2 (Heap.none_of (H' := s.H) (by rw [hsH]; exact hle0) hDn), hres.symm, rfl⟩
end Go.Proofs.Ytdbeimlancnncaa
