/- Lemmas and contracts of functions, several texts in one: P1 P2 P3. -/
import Derived.Test.YtdbeimlancnncaaGIB
import Derived.Test.YtdbeimlancnncaaGY
/- The control flow of bodies, in plain Lean: points, what follows, what is reached. -/
namespace Go.Proofs.Ytdbeimlancnncaa
set_option linter.unusedVariables false
set_option linter.unusedSimpArgs false
abbrev Gr := List (Nat × List Int)
def cntG : Gr → Nat
  | [] => 0
  | x :: G => x.1 + 1 + cntG G
theorem cntG_append : ∀ (G G' : Gr), cntG (G ++ G') = cntG G + cntG G'
  | [], G' => by simp [cntG]
  | x :: G, G' => by simp only [List.cons_append, cntG]; rw [cntG_append G G']; omega
def fstG (G : Gr) (i : Nat) : Nat := cntG (G.take i)
theorem fstG_zero (G : Gr) : fstG G 0 = 0 := rfl
theorem fstG_succ {G : Gr} {i : Nat} (h : i < G.length) : fstG G (i + 1) = fstG G i + G[i].1 + 1 := by
  unfold fstG
  rw [List.take_succ_eq_append_getElem h, cntG_append]
  simp only [cntG]; omega
theorem fstG_ge {G : Gr} {i : Nat} (h : G.length ≤ i) : fstG G i = cntG G := by
  unfold fstG; rw [List.take_of_length_le h]
theorem fstG_mono {G : Gr} {i j : Nat} (h : i ≤ j) : fstG G i ≤ fstG G j := by
  induction j with
  | zero => obtain rfl : i = 0 := by omega
            exact Nat.le_refl _
  | succ j ih =>
    by_cases e : i = j + 1
    · subst e; exact Nat.le_refl _
    · refine Nat.le_trans (ih (by omega)) ?_
      by_cases hj : j < G.length
      · rw [fstG_succ hj]; omega
      · rw [fstG_ge (i := j + 1) (by omega), fstG_ge (i := j) (by omega)]; exact Nat.le_refl _
theorem fstG_lt {G : Gr} {i j : Nat} (h : i < j) (hi : i < G.length) : fstG G i + G[i].1 < fstG G j := by
  have h1 := fstG_mono (G := G) (show i + 1 ≤ j by omega)
  rw [fstG_succ hi] at h1
  omega
theorem fstG_cnt {G : Gr} {i : Nat} : fstG G i ≤ cntG G := by
  have := fstG_mono (G := G) (show i ≤ i + G.length by omega)
  rwa [fstG_ge (i := i + G.length) (by omega)] at this
theorem len_cnt : ∀ G : Gr, G.length ≤ cntG G
  | [] => by simp [cntG]
  | x :: G => by have := len_cnt G; simp only [List.length_cons, cntG]; omega
/-- Point p lies in block i at position k. -/
def At (G : Gr) (p : Int) (i k : Nat) : Prop := ∃ h : i < G.length, k ≤ G[i].1 ∧ p = (fstG G i : Int) + k
theorem At.lt {G : Gr} {p : Int} {i k : Nat} (h : At G p i k) : 0 ≤ p ∧ p < cntG G := by
  obtain ⟨h1, h2, h3⟩ := h
  have := fstG_lt (Nat.lt_succ_self i) h1
  have := fstG_cnt (G := G) (i := i + 1)
  simp only [Nat.succ_eq_add_one] at *
  omega
theorem At.uniq {G : Gr} {p : Int} {i k j l : Nat} (h : At G p i k) (h' : At G p j l) : i = j ∧ k = l := by
  obtain ⟨h1, h2, h3⟩ := h
  obtain ⟨g1, g2, g3⟩ := h'
  have e : i = j := by
    rcases Nat.lt_trichotomy i j with h | h | h
    · have := fstG_lt h h1; omega
    · exact h
    · have := fstG_lt h g1; omega
  subst e
  exact ⟨rfl, by omega⟩
theorem at_ex {G : Gr} {p : Int} (h0 : 0 ≤ p) : ∀ n, n ≤ G.length → p < fstG G n → ∃ i k, At G p i k
  | 0, _, h => by rw [fstG_zero] at h; omega
  | n + 1, hn, h => by
    by_cases h1 : p < fstG G n
    · exact at_ex h0 n (by omega) h1
    · rw [fstG_succ (by omega)] at h
      exact ⟨n, (p - fstG G n).toNat, by omega, by omega, by omega⟩
theorem at_iff {G : Gr} {p : Int} : (∃ i k, At G p i k) ↔ 0 ≤ p ∧ p < cntG G := by
  constructor
  · rintro ⟨i, k, h⟩; exact h.lt
  · rintro ⟨h1, h2⟩; exact at_ex h1 G.length (Nat.le_refl _) (by rw [fstG_ge (Nat.le_refl _)]; exact h2)
open Classical in
noncomputable def locG (G : Gr) (p : Int) : Option (Nat × Nat) := if h : ∃ x : Nat × Nat, At G p x.1 x.2 then some h.choose else none
theorem locG_at {G : Gr} {p : Int} {i k : Nat} (h : At G p i k) : locG G p = some (i, k) := by
  unfold locG
  have hx : ∃ x : Nat × Nat, At G p x.1 x.2 := ⟨(i, k), h⟩
  rw [dif_pos hx]
  have := hx.choose_spec.uniq h
  exact congrArg some (Prod.ext this.1 this.2)
theorem locG_no {G : Gr} {p : Int} (h : ¬ (0 ≤ p ∧ p < cntG G)) : locG G p = none := by
  unfold locG
  rw [dif_neg]
  rintro ⟨x, hx⟩
  exact h hx.lt
/-- What follows the position k of block i. -/
def Suc (G : Gr) (i k : Nat) (q : Int) : Prop := ∃ h : i < G.length, (k < G[i].1 ∧ q = (fstG G i : Int) + k + 1) ∨ (k = G[i].1 ∧ ∃ t ∈ G[i].2, 0 ≤ t ∧ t < G.length ∧ q = fstG G t.toNat)
def Fol (G : Gr) (p q : Int) : Prop := ∃ i k, At G p i k ∧ Suc G i k q
theorem fol_at {G : Gr} {p q : Int} {i k : Nat} (h : At G p i k) : Fol G p q ↔ Suc G i k q := by
  constructor
  · rintro ⟨j, l, h1, h2⟩
    obtain ⟨rfl, rfl⟩ := h.uniq h1
    exact h2
  · exact fun h2 => ⟨i, k, h, h2⟩
theorem Suc.at_ {G : Gr} {i k : Nat} {q : Int} (h : Suc G i k q) : ∃ j l, At G q j l := by
  obtain ⟨h1, h2 | ⟨h2, t, ht, h3, h4, h5⟩⟩ := h
  · exact ⟨i, k + 1, h1, by omega, by omega⟩
  · exact ⟨t.toNat, 0, by omega, by omega, by omega⟩
theorem Suc.lt {G : Gr} {i k : Nat} {q : Int} (h : Suc G i k q) : 0 ≤ q ∧ q < cntG G := by
  obtain ⟨j, l, h⟩ := h.at_; exact h.lt
theorem Fol.lt {G : Gr} {p q : Int} (h : Fol G p q) : (0 ≤ p ∧ p < cntG G) ∧ (0 ≤ q ∧ q < cntG G) := by
  obtain ⟨i, k, h1, h2⟩ := h
  exact ⟨h1.lt, h2.lt⟩
/-- The numbers below n, as whole numbers. -/
def ups (n : Nat) : List Int := (List.range n).map fun (q : Nat) => (q : Int)
theorem mem_ups {n : Nat} {q : Int} : q ∈ ups n ↔ 0 ≤ q ∧ q < n := by
  unfold ups
  rw [List.mem_map]
  constructor
  · rintro ⟨m, hm, rfl⟩; rw [List.mem_range] at hm; omega
  · rintro ⟨h1, h2⟩; exact ⟨q.toNat, by rw [List.mem_range]; omega, by omega⟩
theorem ups_strict (n : Nat) : (ups n).Pairwise (· < ·) := by
  unfold ups
  rw [List.pairwise_map]
  exact List.pairwise_lt_range.imp fun h => by omega
theorem ups_len (n : Nat) : (ups n).length = n := by unfold ups; simp
theorem ups_get {n i : Nat} (h : i < (ups n).length) : (ups n)[i] = (i : Int) := by simp only [ups, List.getElem_map, List.getElem_range]
theorem ups_succ (n : Nat) : ups (n + 1) = ups n ++ [(n : Int)] := by unfold ups; rw [List.range_succ, List.map_append]; rfl
open Classical in
noncomputable def nxt (G : Gr) (p : Int) : List Int := (ups (cntG G)).filter fun q => decide (Fol G p q)
theorem mem_nxt {G : Gr} {p q : Int} : q ∈ nxt G p ↔ Fol G p q := by
  simp only [nxt, List.mem_filter, decide_eq_true_eq, mem_ups]
  exact ⟨fun h => h.2, fun h => ⟨h.lt.2, h⟩⟩
theorem nxt_strict (G : Gr) (p : Int) : (nxt G p).Pairwise (· < ·) := (ups_strict _).filter _
theorem nxt_len (G : Gr) (p : Int) : (nxt G p).length ≤ cntG G := by
  have := List.length_filter_le (fun q => @decide (Fol G p q) (Classical.propDecidable _)) (ups (cntG G))
  rw [ups_len] at this
  exact this
theorem nxt_no {G : Gr} {p : Int} (h : ¬ (0 ≤ p ∧ p < cntG G)) : nxt G p = [] := by
  refine List.eq_nil_iff_forall_not_mem.2 fun q hq => ?_
  exact h (mem_nxt.1 hq).lt.1
noncomputable def edgs (G : Gr) : List (Int × Int) := (ups (cntG G)).flatMap fun p => (nxt G p).map fun q => (p, q)
theorem mem_edgs {G : Gr} {e : Int × Int} : e ∈ edgs G ↔ Fol G e.1 e.2 := by
  unfold edgs
  rw [List.mem_flatMap]
  constructor
  · rintro ⟨p, _, h⟩
    obtain ⟨q, hq, rfl⟩ := List.mem_map.1 h
    exact mem_nxt.1 hq
  · intro h
    exact ⟨e.1, mem_ups.2 h.lt.1, List.mem_map.2 ⟨e.2, mem_nxt.2 h, rfl⟩⟩
inductive Rea (G : Gr) : Int → Int → Prop
  | one {a b : Int} : Fol G a b → Rea G a b
  | step {a b c : Int} : Rea G a b → Fol G b c → Rea G a c
theorem Rea.trans {G : Gr} {a b c : Int} (h : Rea G a b) (h' : Rea G b c) : Rea G a c := by
  induction h' with
  | one h2 => exact .step h h2
  | step _ h2 ih => exact .step ih h2
theorem Rea.lt {G : Gr} {a b : Int} (h : Rea G a b) : (0 ≤ a ∧ a < cntG G) ∧ (0 ≤ b ∧ b < cntG G) := by
  induction h with
  | one h => exact h.lt
  | step h1 h2 ih => exact ⟨ih.1, h2.lt.2⟩
open Classical in
noncomputable def reaB (G : Gr) (p q : Int) : Bool := decide (Rea G p q)
theorem reaB_t {G : Gr} {p q : Int} : reaB G p q = true ↔ Rea G p q := by simp [reaB]
theorem reaB_f {G : Gr} {p q : Int} : reaB G p q = false ↔ ¬ Rea G p q := by simp [reaB]
/-- A set that holds all that follows the start and is closed holds all that is reached. -/
theorem rea_closed {G : Gr} {S : List Int} {a : Int} (ha : ∀ x, Fol G a x → x ∈ S) (hc : ∀ x ∈ S, ∀ y, Fol G x y → y ∈ S) {b : Int} (h : Rea G a b) : b ∈ S := by
  induction h with
  | one h => exact ha _ h
  | step _ h2 ih => exact hc _ ih _ h2
end Go.Proofs.Ytdbeimlancnncaa
/- The reference of chapter 11: First, Count, Index, Locate, Follows. -/
namespace Go.Proofs.Ytdbeimlancnncaa
open Go.RowKit
set_option linter.unusedVariables false
set_option maxRecDepth 100000
set_option linter.unusedSimpArgs false
/-- A block of a body: its statements' cells, its targets, what else there is. -/
structure GBlk where
  st : List (List D)
  k : D
  tg : List Int
  ar : D
  lo : D
  pr : D
  nm : D
def gbkD (b : GBlk) : List D := [.seq 11 b.st, b.k, .seq 1 (b.tg.map iD), b.ar, b.lo, b.pr, b.nm]
/-- A body: its blocks, what else there is. -/
structure GBdy where
  nm : D
  rg : D
  ol : D
  ty : D
  lc : D
  ag : D
  bl : List GBlk
def gbdD (b : GBdy) : List D := [b.nm, b.rg, b.ol, b.ty, b.lc, b.ag, .seq 7 (b.bl.map gbkD)]
def GBdy.g (b : GBdy) : Gr := b.bl.map fun x => (x.st.length, x.tg)
theorem GBdy.g_len (b : GBdy) : b.g.length = b.bl.length := by unfold GBdy.g; simp
theorem GBdy.g_get (b : GBdy) {i : Nat} (h : i < b.bl.length) : b.g[i]'(by rw [b.g_len]; exact h) = (b.bl[i].st.length, b.bl[i].tg) := by simp only [GBdy.g, List.getElem_map]
theorem blk_get {b : GBdy} {i : Nat} (h : i < b.bl.length) : (b.bl.map gbkD)[i]? = some (gbkD b.bl[i]) := by rw [List.getElem?_map, List.getElem?_eq_getElem h]; rfl
theorem bl_len (b : GBdy) : (b.bl.map gbkD).length = b.bl.length := List.length_map _
theorem fst_next (b : GBdy) {i : Nat} (h : i < b.bl.length) : fstG b.g (i + 1) = fstG b.g i + b.bl[i].st.length + 1 := by
  rw [fstG_succ (by rw [b.g_len]; exact h), b.g_get h]
theorem at_b {b : GBdy} {p : Int} {i k : Nat} : At b.g p i k ↔ ∃ h : i < b.bl.length, k ≤ b.bl[i].st.length ∧ p = (fstG b.g i : Int) + k := by
  constructor
  · rintro ⟨h1, h2, h3⟩
    have h4 : i < b.bl.length := by rw [b.g_len] at h1; exact h1
    rw [b.g_get h4] at h2
    exact ⟨h4, h2, h3⟩
  · rintro ⟨h1, h2, h3⟩
    exact ⟨by rw [b.g_len]; exact h1, by rw [b.g_get h1]; exact h2, h3⟩
theorem bl_small {b : GBdy} (hc : cntG b.g ≤ 1000000) : b.bl.length ≤ 1000000 := by
  have := len_cnt b.g
  rw [b.g_len] at this; omega
theorem st_small {b : GBdy} (hc : cntG b.g ≤ 1000000) {i : Nat} (h : i < b.bl.length) : b.bl[i].st.length + fstG b.g i + 1 ≤ 1000000 := by
  have h1 := fst_next b h
  have h2 := fstG_cnt (G := b.g) (i := i + 1)
  omega
set_option maxHeartbeats 1000000 in
theorem kfirst_N (b : GBdy) (n : Int) (H : Heap) (hc : cntG b.g ≤ 1000000) : Does Try.prog 26 [.agg (gbdD b), i64 n] H fun d H' => d = i64 (fstG b.g n.toNat) ∧ H = H' := by
  have hbl := bl_len b
  have hsm := bl_small hc
  refine does_of _ _ Try.func26 rfl rfl Try.ntmps26 Try.results26 (by simp only [List.length_cons, List.length_nil]; omega) fun w0 Q hret => ?_
  (have fs := And.intro @i64.eq_1 @gbdD.eq_1; (repeat (first | refine hGx _ ?_ | refine hNx _ ?_ | refine W_skip ?_ | refine W_exit ?_ | refine W_ret ?_ | refine W_label ?_ | refine W_scope ?_ | refine W_block ?_ | refine W_seq ?_ | ((first | refine tS fun N hNx => ?_ | refine WL_gE rfl rfl (by kernel_rfl) (by kernel_rfl) fun G hGx => ?_ | refine vcOpsS_sound (by kernel_rfl) ?_ | refine W_ifE fun A B hAx hBx => ?_); refine evT ?_; (first | refine hGx _ ?_ | refine hNx _ ?_ | refine hAx ?_ | refine hBx ?_ | skip)))); (try clear fs))
  intro c2 hc2
  refine hNx _ ?_
  refine W_frzp 2 rfl (Heap.upd_same _ _ _) rfl ?_; simp only [St.frzp, put_H, wdf_H, withH_H, withH_put, wdf_withH, withH_withH, init_H, init_withH, Heap.del_upd_same, Heap.del_none hc2, withH_self]
  (have fs := @i64.eq_1; (repeat (first | refine hGx _ ?_ | refine hNx _ ?_ | refine W_skip ?_ | refine W_exit ?_ | refine W_ret ?_ | refine W_label ?_ | refine W_scope ?_ | refine W_block ?_ | refine W_seq ?_ | ((first | refine tS fun N hNx => ?_ | refine WL_gE rfl rfl (by kernel_rfl) (by kernel_rfl) fun G hGx => ?_ | refine vcOpsS_sound (by kernel_rfl) ?_ | refine W_ifE fun A B hAx hBx => ?_); refine evT ?_; (first | refine hGx _ ?_ | refine hNx _ ?_ | refine hAx ?_ | refine hBx ?_ | skip)))); (try clear fs))
  refine W_loopN b.bl.length (fun i s => s.df = [] ∧ s.fr 1 = i64 n ∧ s.fr 2 = .rp (gbdD b) ∧ s.fr 5 = i64 (fstG b.g i) ∧ s.fr 6 = i64 i ∧ s.H = H ∧ i ≤ n.toNat) ⟨rfl, rfl, rfl, rfl, rfl, rfl, Nat.zero_le _⟩ ?_
  rintro i s hi ⟨hdf, f1, f2, f5, f6, hH, hin⟩
  have hx : (i : Int).toNat = i := Int.toNat_natCast _
  have h00 : (0 : Int) ≤ (i : Int) := Int.natCast_nonneg _
  simp only [gbdD] at f2
  by_cases q : (i : Int) < n
  case neg =>
    have q1 : ((i : Int) < n) = False := eq_false q
    have e : n.toNat = i := by omega
    (have fs := And.intro f1 (And.intro f2 (And.intro f5 (And.intro f6 (And.intro @i64.eq_1 q1)))); (repeat (first | refine hGx _ ?_ | refine hNx _ ?_ | refine W_skip ?_ | refine W_exit ?_ | refine W_ret ?_ | refine W_label ?_ | refine W_scope ?_ | refine W_block ?_ | refine W_seq ?_ | ((first | refine tS fun N hNx => ?_ | refine WL_gE rfl rfl (by kernel_rfl) (by kernel_rfl) fun G hGx => ?_ | refine vcOpsS_sound (by kernel_rfl) ?_ | refine W_ifE fun A B hAx hBx => ?_); refine evT ?_; (first | refine hGx _ ?_ | refine hNx _ ?_ | refine hAx ?_ | refine hBx ?_ | skip)))); (try clear fs))
    (first | (show Q .ret _) | (show Q .normal _) | skip); refine hret _ _ (by first | exact .inr rfl | exact .inl rfl) (by first | rfl | assumption | (simp only [put_df, withH_df]; assumption)) ?_; have fs := hdf; refine evT ?_; clear fs
    exact ⟨_, Heap.le_refl _, by rw [e]; rfl, hH.symm⟩
  have q1 : ((i : Int) < n) = True := eq_true q
  by_cases hil : i < b.bl.length
  case neg =>
    have q2 : ((i : Int) < (b.bl.length : Int)) = False := eq_false (by omega)
    have e : fstG b.g i = fstG b.g n.toNat := by rw [fstG_ge (by rw [b.g_len]; omega), fstG_ge (by rw [b.g_len]; omega)]
    (have fs := And.intro f1 (And.intro f2 (And.intro f5 (And.intro f6 (And.intro @i64.eq_1 (And.intro q1 (And.intro q2 hbl)))))); (repeat (first | refine hGx _ ?_ | refine hNx _ ?_ | refine W_skip ?_ | refine W_exit ?_ | refine W_ret ?_ | refine W_label ?_ | refine W_scope ?_ | refine W_block ?_ | refine W_seq ?_ | ((first | refine tS fun N hNx => ?_ | refine WL_gE rfl rfl (by kernel_rfl) (by kernel_rfl) fun G hGx => ?_ | refine vcOpsS_sound (by kernel_rfl) ?_ | refine W_ifE fun A B hAx hBx => ?_); refine evT ?_; (first | refine hGx _ ?_ | refine hNx _ ?_ | refine hAx ?_ | refine hBx ?_ | skip)))); (try clear fs))
    (first | (show Q .ret _) | (show Q .normal _) | skip); refine hret _ _ (by first | exact .inr rfl | exact .inl rfl) (by first | rfl | assumption | (simp only [put_df, withH_df]; assumption)) ?_; have fs := hdf; refine evT ?_; clear fs
    exact ⟨_, Heap.le_refl _, by rw [← e]; rfl, hH.symm⟩
  have q2 : ((i : Int) < (b.bl.length : Int)) = True := eq_true (by omega)
  have hgi := blk_get hil
  have hst := st_small hc hil
  have hnx := fst_next b hil
  obtain ⟨x, hxe⟩ : ∃ x, x = b.bl[i] := ⟨_, rfl⟩
  rw [← hxe] at hgi hst hnx
  simp only [gbkD] at hgi
  have w1 : IntKind.i64.wrap ((x.st.length : Int) + 1) = ((x.st.length + 1 : Nat) : Int) := by rw [wrap_i64_of (by omega)]; omega
  have w2 : IntKind.i64.wrap ((fstG b.g i : Int) + ((x.st.length + 1 : Nat) : Int)) = ((fstG b.g (i + 1) : Nat) : Int) := by rw [wrap_i64_of (by omega)]; omega
  have w3 : IntKind.i64.wrap ((i : Int) + 1) = ((i + 1 : Nat) : Int) := by rw [wrap_i64_of (by omega)]; omega
  (have fs := And.intro f1 (And.intro f2 (And.intro f5 (And.intro f6 (And.intro @i64.eq_1 (And.intro q1 (And.intro q2 (And.intro hbl (And.intro hgi (And.intro hx (And.intro h00 (And.intro hil (And.intro w1 (And.intro w2 w3))))))))))))); (repeat (first | refine hGx _ ?_ | refine hNx _ ?_ | refine W_skip ?_ | refine W_exit ?_ | refine W_ret ?_ | refine W_label ?_ | refine W_scope ?_ | refine W_block ?_ | refine W_seq ?_ | ((first | refine tS fun N hNx => ?_ | refine WL_gE rfl rfl (by kernel_rfl) (by kernel_rfl) fun G hGx => ?_ | refine vcOpsS_sound (by kernel_rfl) ?_ | refine W_ifE fun A B hAx hBx => ?_); refine evT ?_; (first | refine hGx _ ?_ | refine hNx _ ?_ | refine hAx ?_ | refine hBx ?_ | skip)))); (try clear fs))
  exact ⟨hil, hdf, f1, f2, rfl, rfl, hH, by omega⟩

set_option maxHeartbeats 1000000 in
theorem kcount_N (b : GBdy) (H : Heap) (hc : cntG b.g ≤ 1000000) : Does Try.prog 16 [.agg (gbdD b)] H fun d H' => d = i64 (cntG b.g) ∧ H = H' := by
  have hbl := bl_len b
  have e : fstG b.g ((b.bl.length : Int)).toNat = cntG b.g := fstG_ge (by rw [b.g_len, Int.toNat_natCast]; exact Nat.le_refl _)
  refine does_of _ _ Try.func16 rfl rfl Try.ntmps16 Try.results16 (by simp only [List.length_cons, List.length_nil]; omega) fun w0 Q hret => ?_
  (have fs := And.intro @i64.eq_1 @gbdD.eq_1; (repeat (first | refine hGx _ ?_ | refine hNx _ ?_ | refine W_skip ?_ | refine W_exit ?_ | refine W_ret ?_ | refine W_label ?_ | refine W_scope ?_ | refine W_block ?_ | refine W_seq ?_ | ((first | refine tS fun N hNx => ?_ | refine WL_gE rfl rfl (by kernel_rfl) (by kernel_rfl) fun G hGx => ?_ | refine vcOpsS_sound (by kernel_rfl) ?_ | refine W_ifE fun A B hAx hBx => ?_); refine evT ?_; (first | refine hGx _ ?_ | refine hNx _ ?_ | refine hAx ?_ | refine hBx ?_ | skip)))); (try clear fs))
  intro c2 hc2
  refine hNx _ ?_
  refine W_frzp 1 rfl (Heap.upd_same _ _ _) rfl ?_; simp only [St.frzp, put_H, wdf_H, withH_H, withH_put, wdf_withH, withH_withH, init_H, init_withH, Heap.del_upd_same, Heap.del_none hc2, withH_self]
  (have fs := And.intro @i64.eq_1 hbl; (repeat (first | refine hGx _ ?_ | refine hNx _ ?_ | refine W_skip ?_ | refine W_exit ?_ | refine W_ret ?_ | refine W_label ?_ | refine W_scope ?_ | refine W_block ?_ | refine W_seq ?_ | ((first | refine tS fun N hNx => ?_ | refine WL_gE rfl rfl (by kernel_rfl) (by kernel_rfl) fun G hGx => ?_ | refine vcOpsS_sound (by kernel_rfl) ?_ | refine W_ifE fun A B hAx hBx => ?_); refine evT ?_; (first | refine hGx _ ?_ | refine hNx _ ?_ | refine hAx ?_ | refine hBx ?_ | skip)))); (try clear fs))
  refine (kfirst_N b _ _ hc).mono ?_
  rintro d _ ⟨rfl, rfl⟩
  rw [e]
  (have fs := @i64.eq_1; (repeat (first | refine hGx _ ?_ | refine hNx _ ?_ | refine W_skip ?_ | refine W_exit ?_ | refine W_ret ?_ | refine W_label ?_ | refine W_scope ?_ | refine W_block ?_ | refine W_seq ?_ | ((first | refine tS fun N hNx => ?_ | refine WL_gE rfl rfl (by kernel_rfl) (by kernel_rfl) fun G hGx => ?_ | refine vcOpsS_sound (by kernel_rfl) ?_ | refine W_ifE fun A B hAx hBx => ?_); refine evT ?_; (first | refine hGx _ ?_ | refine hNx _ ?_ | refine hAx ?_ | refine hBx ?_ | skip)))); (try clear fs))
  (first | (show Q .ret _) | (show Q .normal _) | skip); refine hret _ _ (by first | exact .inr rfl | exact .inl rfl) (by first | rfl | assumption | (simp only [put_df, withH_df]; assumption)) ?_; have fs := @i64.eq_1; refine evT ?_; clear fs
  exact ⟨_, Heap.le_refl _, rfl⟩
/-- What Index tells. -/
def idxI (b : GBdy) (i k : Int) : Prop := ∃ h : 0 ≤ i ∧ i < b.bl.length, 0 ≤ k ∧ k ≤ (b.bl[i.toNat]'(by omega)).st.length
open Classical in
noncomputable def idxD (b : GBdy) (i k : Int) : D := if idxI b i k then .tup [i64 ((fstG b.g i.toNat : Int) + k), .val (.bool true)] else .tup [i64 0, .val (.bool false)]
theorem idxD_t {b : GBdy} {i k : Int} (h : idxI b i k) : idxD b i k = .tup [i64 ((fstG b.g i.toNat : Int) + k), .val (.bool true)] := by unfold idxD; rw [if_pos h]
theorem idxD_f {b : GBdy} {i k : Int} (h : ¬ idxI b i k) : idxD b i k = .tup [i64 0, .val (.bool false)] := by unfold idxD; rw [if_neg h]
set_option maxHeartbeats 1000000 in
theorem kindex_N (b : GBdy) (i k : Int) (H : Heap) (hc : cntG b.g ≤ 1000000) : Does Try.prog 12 [.agg (gbdD b), i64 i, i64 k] H fun d H' => d = idxD b i k ∧ H = H' := by
  have hbl := bl_len b
  have hsm := bl_small hc
  refine does_of _ _ Try.func12 rfl rfl Try.ntmps12 Try.results12 (by simp only [List.length_cons, List.length_nil]; omega) fun w0 Q hret => ?_
  (have fs := And.intro @i64.eq_1 @gbdD.eq_1; (repeat (first | refine hGx _ ?_ | refine hNx _ ?_ | refine W_skip ?_ | refine W_exit ?_ | refine W_ret ?_ | refine W_label ?_ | refine W_scope ?_ | refine W_block ?_ | refine W_seq ?_ | ((first | refine tS fun N hNx => ?_ | refine WL_gE rfl rfl (by kernel_rfl) (by kernel_rfl) fun G hGx => ?_ | refine vcOpsS_sound (by kernel_rfl) ?_ | refine W_ifE fun A B hAx hBx => ?_); refine evT ?_; (first | refine hGx _ ?_ | refine hNx _ ?_ | refine hAx ?_ | refine hBx ?_ | skip)))); (try clear fs))
  intro c2 hc2
  refine hNx _ ?_
  refine W_frzp 3 rfl (Heap.upd_same _ _ _) rfl ?_; simp only [St.frzp, put_H, wdf_H, withH_H, withH_put, wdf_withH, withH_withH, init_H, init_withH, Heap.del_upd_same, Heap.del_none hc2, withH_self]
  by_cases h1 : i < 0
  · have q1 : (i < 0) = True := eq_true h1
    have e := idxD_f (b := b) (i := i) (k := k) fun h => by have := h.1.1; omega
    (have fs := And.intro @i64.eq_1 q1; (repeat (first | refine hGx _ ?_ | refine hNx _ ?_ | refine W_skip ?_ | refine W_exit ?_ | refine W_ret ?_ | refine W_label ?_ | refine W_scope ?_ | refine W_block ?_ | refine W_seq ?_ | ((first | refine tS fun N hNx => ?_ | refine WL_gE rfl rfl (by kernel_rfl) (by kernel_rfl) fun G hGx => ?_ | refine vcOpsS_sound (by kernel_rfl) ?_ | refine W_ifE fun A B hAx hBx => ?_); refine evT ?_; (first | refine hGx _ ?_ | refine hNx _ ?_ | refine hAx ?_ | refine hBx ?_ | skip)))); (try clear fs))
    (first | (show Q .ret _) | (show Q .normal _) | skip); refine hret _ _ (by first | exact .inr rfl | exact .inl rfl) (by first | rfl | assumption | (simp only [put_df, withH_df]; assumption)) ?_; have fs := @i64.eq_1; refine evT ?_; clear fs
    exact ⟨_, Heap.le_refl _, e.symm, rfl⟩
  have q1 : (i < 0) = False := eq_false h1
  by_cases h2 : i < b.bl.length
  case neg =>
    have q2 : ((b.bl.length : Int) ≤ i) = True := eq_true (by omega)
    have e := idxD_f (b := b) (i := i) (k := k) fun h => by have := h.1.2; omega
    (have fs := And.intro @i64.eq_1 (And.intro q1 (And.intro q2 hbl)); (repeat (first | refine hGx _ ?_ | refine hNx _ ?_ | refine W_skip ?_ | refine W_exit ?_ | refine W_ret ?_ | refine W_label ?_ | refine W_scope ?_ | refine W_block ?_ | refine W_seq ?_ | ((first | refine tS fun N hNx => ?_ | refine WL_gE rfl rfl (by kernel_rfl) (by kernel_rfl) fun G hGx => ?_ | refine vcOpsS_sound (by kernel_rfl) ?_ | refine W_ifE fun A B hAx hBx => ?_); refine evT ?_; (first | refine hGx _ ?_ | refine hNx _ ?_ | refine hAx ?_ | refine hBx ?_ | skip)))); (try clear fs))
    (first | (show Q .ret _) | (show Q .normal _) | skip); refine hret _ _ (by first | exact .inr rfl | exact .inl rfl) (by first | rfl | assumption | (simp only [put_df, withH_df]; assumption)) ?_; have fs := @i64.eq_1; refine evT ?_; clear fs
    exact ⟨_, Heap.le_refl _, e.symm, rfl⟩
  have q2 : ((b.bl.length : Int) ≤ i) = False := eq_false (by omega)
  by_cases h3 : k < 0
  · have q3 : (k < 0) = True := eq_true h3
    have e := idxD_f (b := b) (i := i) (k := k) fun h => by obtain ⟨_, h, _⟩ := h; omega
    (have fs := And.intro @i64.eq_1 (And.intro q1 (And.intro q2 (And.intro q3 hbl))); (repeat (first | refine hGx _ ?_ | refine hNx _ ?_ | refine W_skip ?_ | refine W_exit ?_ | refine W_ret ?_ | refine W_label ?_ | refine W_scope ?_ | refine W_block ?_ | refine W_seq ?_ | ((first | refine tS fun N hNx => ?_ | refine WL_gE rfl rfl (by kernel_rfl) (by kernel_rfl) fun G hGx => ?_ | refine vcOpsS_sound (by kernel_rfl) ?_ | refine W_ifE fun A B hAx hBx => ?_); refine evT ?_; (first | refine hGx _ ?_ | refine hNx _ ?_ | refine hAx ?_ | refine hBx ?_ | skip)))); (try clear fs))
    (first | (show Q .ret _) | (show Q .normal _) | skip); refine hret _ _ (by first | exact .inr rfl | exact .inl rfl) (by first | rfl | assumption | (simp only [put_df, withH_df]; assumption)) ?_; have fs := @i64.eq_1; refine evT ?_; clear fs
    exact ⟨_, Heap.le_refl _, e.symm, rfl⟩
  have q3 : (k < 0) = False := eq_false h3
  have hil : i.toNat < b.bl.length := by omega
  have h0i : 0 ≤ i := by omega
  have hgi := blk_get hil
  have hst := st_small hc hil
  have e1 : idxI b i k ↔ k ≤ b.bl[i.toNat].st.length := ⟨fun h => h.2.2, fun h => ⟨⟨h0i, h2⟩, by omega, h⟩⟩
  obtain ⟨x, hxe⟩ : ∃ x, x = b.bl[i.toNat] := ⟨_, rfl⟩
  rw [← hxe] at hgi hst e1
  simp only [gbkD] at hgi
  by_cases h4 : k ≤ x.st.length
  case neg =>
    have q4 : ((x.st.length : Int) < k) = True := eq_true (by omega)
    have e := idxD_f fun h => h4 (e1.1 h)
    (have fs := And.intro @i64.eq_1 (And.intro q1 (And.intro q2 (And.intro q3 (And.intro q4 (And.intro hbl (And.intro hgi (And.intro h0i (And.intro hil h2)))))))); (repeat (first | refine hGx _ ?_ | refine hNx _ ?_ | refine W_skip ?_ | refine W_exit ?_ | refine W_ret ?_ | refine W_label ?_ | refine W_scope ?_ | refine W_block ?_ | refine W_seq ?_ | ((first | refine tS fun N hNx => ?_ | refine WL_gE rfl rfl (by kernel_rfl) (by kernel_rfl) fun G hGx => ?_ | refine vcOpsS_sound (by kernel_rfl) ?_ | refine W_ifE fun A B hAx hBx => ?_); refine evT ?_; (first | refine hGx _ ?_ | refine hNx _ ?_ | refine hAx ?_ | refine hBx ?_ | skip)))); (try clear fs))
    (first | (show Q .ret _) | (show Q .normal _) | skip); refine hret _ _ (by first | exact .inr rfl | exact .inl rfl) (by first | rfl | assumption | (simp only [put_df, withH_df]; assumption)) ?_; have fs := @i64.eq_1; refine evT ?_; clear fs
    exact ⟨_, Heap.le_refl _, e.symm, rfl⟩
  have q4 : ((x.st.length : Int) < k) = False := eq_false (by omega)
  have e := idxD_t (e1.2 h4)
  (have fs := And.intro @i64.eq_1 (And.intro q1 (And.intro q2 (And.intro q3 (And.intro q4 (And.intro hbl (And.intro hgi (And.intro h0i (And.intro hil h2)))))))); (repeat (first | refine hGx _ ?_ | refine hNx _ ?_ | refine W_skip ?_ | refine W_exit ?_ | refine W_ret ?_ | refine W_label ?_ | refine W_scope ?_ | refine W_block ?_ | refine W_seq ?_ | ((first | refine tS fun N hNx => ?_ | refine WL_gE rfl rfl (by kernel_rfl) (by kernel_rfl) fun G hGx => ?_ | refine vcOpsS_sound (by kernel_rfl) ?_ | refine W_ifE fun A B hAx hBx => ?_); refine evT ?_; (first | refine hGx _ ?_ | refine hNx _ ?_ | refine hAx ?_ | refine hBx ?_ | skip)))); (try clear fs))
  refine (kfirst_N b _ _ hc).mono ?_
  rintro d _ ⟨rfl, rfl⟩
  have w1 : IntKind.i64.wrap ((fstG b.g i.toNat : Int) + k) = (fstG b.g i.toNat : Int) + k := by rw [wrap_i64_of (by omega)]
  (have fs := And.intro @i64.eq_1 w1; (repeat (first | refine hGx _ ?_ | refine hNx _ ?_ | refine W_skip ?_ | refine W_exit ?_ | refine W_ret ?_ | refine W_label ?_ | refine W_scope ?_ | refine W_block ?_ | refine W_seq ?_ | ((first | refine tS fun N hNx => ?_ | refine WL_gE rfl rfl (by kernel_rfl) (by kernel_rfl) fun G hGx => ?_ | refine vcOpsS_sound (by kernel_rfl) ?_ | refine W_ifE fun A B hAx hBx => ?_); refine evT ?_; (first | refine hGx _ ?_ | refine hNx _ ?_ | refine hAx ?_ | refine hBx ?_ | skip)))); (try clear fs))
  (first | (show Q .ret _) | (show Q .normal _) | skip); refine hret _ _ (by first | exact .inr rfl | exact .inl rfl) (by first | rfl | assumption | (simp only [put_df, withH_df]; assumption)) ?_; have fs := @i64.eq_1; refine evT ?_; clear fs
  exact ⟨_, Heap.le_refl _, e.symm, rfl⟩
/-- What Locate tells. -/
noncomputable def locD (G : Gr) (p : Int) : D := match locG G p with
  | some (i, k) => .tup [i64 i, i64 k, .val (.bool true)]
  | none => .tup [i64 0, i64 0, .val (.bool false)]
theorem locD_at {G : Gr} {p : Int} {i k : Nat} (h : At G p i k) : locD G p = .tup [i64 i, i64 k, .val (.bool true)] := by unfold locD; rw [locG_at h]
theorem locD_no {G : Gr} {p : Int} (h : ¬ (0 ≤ p ∧ p < cntG G)) : locD G p = .tup [i64 0, i64 0, .val (.bool false)] := by unfold locD; rw [locG_no h]
set_option maxHeartbeats 1000000 in
theorem kloc_N (b : GBdy) (p : Int) (H : Heap) (hc : cntG b.g ≤ 1000000) (hp : p ≤ 9223372036854775807) : Does Try.prog 14 [.agg (gbdD b), i64 p] H fun d H' => d = locD b.g p ∧ H = H' := by
  have hbl := bl_len b
  have hsm := bl_small hc
  refine does_of _ _ Try.func14 rfl rfl Try.ntmps14 Try.results14 (by simp only [List.length_cons, List.length_nil]; omega) fun w0 Q hret => ?_
  (have fs := And.intro @i64.eq_1 @gbdD.eq_1; (repeat (first | refine hGx _ ?_ | refine hNx _ ?_ | refine W_skip ?_ | refine W_exit ?_ | refine W_ret ?_ | refine W_label ?_ | refine W_scope ?_ | refine W_block ?_ | refine W_seq ?_ | ((first | refine tS fun N hNx => ?_ | refine WL_gE rfl rfl (by kernel_rfl) (by kernel_rfl) fun G hGx => ?_ | refine vcOpsS_sound (by kernel_rfl) ?_ | refine W_ifE fun A B hAx hBx => ?_); refine evT ?_; (first | refine hGx _ ?_ | refine hNx _ ?_ | refine hAx ?_ | refine hBx ?_ | skip)))); (try clear fs))
  intro c2 hc2
  refine hNx _ ?_
  refine W_frzp 2 rfl (Heap.upd_same _ _ _) rfl ?_; simp only [St.frzp, put_H, wdf_H, withH_H, withH_put, wdf_withH, withH_withH, init_H, init_withH, Heap.del_upd_same, Heap.del_none hc2, withH_self]
  (have fs := @i64.eq_1; (repeat (first | refine hGx _ ?_ | refine hNx _ ?_ | refine W_skip ?_ | refine W_exit ?_ | refine W_ret ?_ | refine W_label ?_ | refine W_scope ?_ | refine W_block ?_ | refine W_seq ?_ | ((first | refine tS fun N hNx => ?_ | refine WL_gE rfl rfl (by kernel_rfl) (by kernel_rfl) fun G hGx => ?_ | refine vcOpsS_sound (by kernel_rfl) ?_ | refine W_ifE fun A B hAx hBx => ?_); refine evT ?_; (first | refine hGx _ ?_ | refine hNx _ ?_ | refine hAx ?_ | refine hBx ?_ | skip)))); (try clear fs))
  refine W_loopN b.bl.length (fun i s => s.df = [] ∧ s.fr 1 = i64 p ∧ s.fr 2 = .rp (gbdD b) ∧ s.fr 7 = i64 i ∧ s.H = H ∧ (0 ≤ p → (fstG b.g i : Int) ≤ p)) ⟨rfl, rfl, rfl, rfl, rfl, fun h => h⟩ ?_
  rintro i s hi ⟨hdf, f1, f2, f7, hH, hin⟩
  have hx : (i : Int).toNat = i := Int.toNat_natCast _
  have h00 : (0 : Int) ≤ (i : Int) := Int.natCast_nonneg _
  simp only [gbdD] at f2
  by_cases hil : i < b.bl.length
  case neg =>
    have q2 : ((i : Int) < (b.bl.length : Int)) = False := eq_false (by omega)
    have e : locD b.g p = _ := locD_no fun h => by
      have := hin h.1
      rw [fstG_ge (by rw [b.g_len]; omega)] at this
      omega
    (have fs := And.intro f1 (And.intro f2 (And.intro f7 (And.intro @i64.eq_1 (And.intro q2 hbl)))); (repeat (first | refine hGx _ ?_ | refine hNx _ ?_ | refine W_skip ?_ | refine W_exit ?_ | refine W_ret ?_ | refine W_label ?_ | refine W_scope ?_ | refine W_block ?_ | refine W_seq ?_ | ((first | refine tS fun N hNx => ?_ | refine WL_gE rfl rfl (by kernel_rfl) (by kernel_rfl) fun G hGx => ?_ | refine vcOpsS_sound (by kernel_rfl) ?_ | refine W_ifE fun A B hAx hBx => ?_); refine evT ?_; (first | refine hGx _ ?_ | refine hNx _ ?_ | refine hAx ?_ | refine hBx ?_ | skip)))); (try clear fs))
    (first | (show Q .ret _) | (show Q .normal _) | skip); refine hret _ _ (by first | exact .inr rfl | exact .inl rfl) (by first | rfl | assumption | (simp only [put_df, withH_df]; assumption)) ?_; have fs := hdf; refine evT ?_; clear fs
    exact ⟨_, Heap.le_refl _, e.symm, hH.symm⟩
  have q2 : ((i : Int) < (b.bl.length : Int)) = True := eq_true (by omega)
  have hil' : (i : Int) < b.bl.length := by omega
  have hgi := blk_get hil
  have hst := st_small hc hil
  have hnx := fst_next b hil
  have hat := fun k => (at_b (b := b) (p := p) (i := i) (k := k)).2
  obtain ⟨x, hxe⟩ : ∃ x, x = b.bl[i] := ⟨_, rfl⟩
  rw [← hxe] at hgi hst hnx
  simp only [gbkD] at hgi
  have w3 : IntKind.i64.wrap ((i : Int) + 1) = ((i + 1 : Nat) : Int) := by rw [wrap_i64_of (by omega)]; omega
  (have fs := And.intro f1 (And.intro f2 (And.intro f7 (And.intro @i64.eq_1 (And.intro q2 hbl)))); (repeat (first | refine hGx _ ?_ | refine hNx _ ?_ | refine W_skip ?_ | refine W_exit ?_ | refine W_ret ?_ | refine W_label ?_ | refine W_scope ?_ | refine W_block ?_ | refine W_seq ?_ | ((first | refine tS fun N hNx => ?_ | refine WL_gE rfl rfl (by kernel_rfl) (by kernel_rfl) fun G hGx => ?_ | refine vcOpsS_sound (by kernel_rfl) ?_ | refine W_ifE fun A B hAx hBx => ?_); refine evT ?_; (first | refine hGx _ ?_ | refine hNx _ ?_ | refine hAx ?_ | refine hBx ?_ | skip)))); (try clear fs))
  refine (kfirst_N b _ _ hc).mono ?_
  rintro d _ ⟨rfl, rfl⟩
  rw [hx]
  by_cases hp0 : 0 ≤ p
  case neg =>
    have q3 : (0 ≤ p) = False := eq_false hp0
    (have fs := And.intro f1 (And.intro f2 (And.intro f7 (And.intro @i64.eq_1 (And.intro q3 w3)))); (repeat (first | refine hGx _ ?_ | refine hNx _ ?_ | refine W_skip ?_ | refine W_exit ?_ | refine W_ret ?_ | refine W_label ?_ | refine W_scope ?_ | refine W_block ?_ | refine W_seq ?_ | ((first | refine tS fun N hNx => ?_ | refine WL_gE rfl rfl (by kernel_rfl) (by kernel_rfl) fun G hGx => ?_ | refine vcOpsS_sound (by kernel_rfl) ?_ | refine W_ifE fun A B hAx hBx => ?_); refine evT ?_; (first | refine hGx _ ?_ | refine hNx _ ?_ | refine hAx ?_ | refine hBx ?_ | skip)))); (try clear fs))
    exact ⟨hil, hdf, f1, f2, rfl, hH, fun h => absurd h hp0⟩
  have q3 : (0 ≤ p) = True := eq_true hp0
  have hin2 := hin hp0
  have q4 : ((0 : Int) ≤ p - (fstG b.g i : Int)) = True := eq_true (by omega)
  have w1 : IntKind.i64.wrap (p - (fstG b.g i : Int)) = p - (fstG b.g i : Int) := by rw [wrap_i64_of (by omega)]
  by_cases h5 : p - (fstG b.g i : Int) ≤ x.st.length
  · have q5 : (p - (fstG b.g i : Int) ≤ (x.st.length : Int)) = True := eq_true h5
    have e : locD b.g p = _ := locD_at (hat (p - (fstG b.g i : Int)).toNat ⟨hil, by rw [← hxe]; omega, by omega⟩)
    have e2 : (((p - (fstG b.g i : Int)).toNat : Nat) : Int) = p - (fstG b.g i : Int) := by omega
    rw [e2] at e
    (have fs := And.intro f1 (And.intro f2 (And.intro f7 (And.intro @i64.eq_1 (And.intro q3 (And.intro q4 (And.intro q5 (And.intro w1 (And.intro w3 (And.intro hgi (And.intro hx (And.intro h00 (And.intro hil (And.intro hil' hbl))))))))))))); (repeat (first | refine hGx _ ?_ | refine hNx _ ?_ | refine W_skip ?_ | refine W_exit ?_ | refine W_ret ?_ | refine W_label ?_ | refine W_scope ?_ | refine W_block ?_ | refine W_seq ?_ | ((first | refine tS fun N hNx => ?_ | refine WL_gE rfl rfl (by kernel_rfl) (by kernel_rfl) fun G hGx => ?_ | refine vcOpsS_sound (by kernel_rfl) ?_ | refine W_ifE fun A B hAx hBx => ?_); refine evT ?_; (first | refine hGx _ ?_ | refine hNx _ ?_ | refine hAx ?_ | refine hBx ?_ | skip)))); (try clear fs))
    (first | (show Q .ret _) | (show Q .normal _) | skip); refine hret _ _ (by first | exact .inr rfl | exact .inl rfl) (by first | rfl | assumption | (simp only [put_df, withH_df]; assumption)) ?_; have fs := hdf; refine evT ?_; clear fs
    exact ⟨_, Heap.le_refl _, e.symm, hH.symm⟩
  · have q5 : (p - (fstG b.g i : Int) ≤ (x.st.length : Int)) = False := eq_false h5
    (have fs := And.intro f1 (And.intro f2 (And.intro f7 (And.intro @i64.eq_1 (And.intro q3 (And.intro q4 (And.intro q5 (And.intro w1 (And.intro w3 (And.intro hgi (And.intro hx (And.intro h00 (And.intro hil (And.intro hil' hbl))))))))))))); (repeat (first | refine hGx _ ?_ | refine hNx _ ?_ | refine W_skip ?_ | refine W_exit ?_ | refine W_ret ?_ | refine W_label ?_ | refine W_scope ?_ | refine W_block ?_ | refine W_seq ?_ | ((first | refine tS fun N hNx => ?_ | refine WL_gE rfl rfl (by kernel_rfl) (by kernel_rfl) fun G hGx => ?_ | refine vcOpsS_sound (by kernel_rfl) ?_ | refine W_ifE fun A B hAx hBx => ?_); refine evT ?_; (first | refine hGx _ ?_ | refine hNx _ ?_ | refine hAx ?_ | refine hBx ?_ | skip)))); (try clear fs))
    exact ⟨hil, hdf, f1, f2, rfl, hH, fun _ => by omega⟩
end Go.Proofs.Ytdbeimlancnncaa
/- The reference of chapter 11: Follows, Next, Edges. -/
namespace Go.Proofs.Ytdbeimlancnncaa
open Go.RowKit
set_option linter.unusedVariables false
set_option maxRecDepth 100000
set_option linter.unusedSimpArgs false
open Classical in
noncomputable def folB (G : Gr) (p q : Int) : Bool := decide (Fol G p q)
theorem folB_t {G : Gr} {p q : Int} (h : Fol G p q) : folB G p q = true := by simp [folB, h]
theorem folB_f {G : Gr} {p q : Int} (h : ¬ Fol G p q) : folB G p q = false := by simp [folB, h]
theorem suc_b {b : GBdy} {i k : Nat} (h : i < b.bl.length) {q : Int} : Suc b.g i k q ↔ (k < b.bl[i].st.length ∧ q = (fstG b.g i : Int) + k + 1) ∨ (k = b.bl[i].st.length ∧ ∃ t ∈ b.bl[i].tg, 0 ≤ t ∧ t < b.bl.length ∧ q = fstG b.g t.toNat) := by
  constructor
  · rintro ⟨h1, h2⟩
    rw [b.g_get h, b.g_len] at h2
    exact h2
  · intro h2
    refine ⟨by rw [b.g_len]; exact h, ?_⟩
    rw [b.g_get h, b.g_len]
    exact h2
set_option maxHeartbeats 1000000 in
theorem kfol_N (b : GBdy) (p q : Int) (H : Heap) (hc : cntG b.g ≤ 1000000) (hp : p ≤ 9223372036854775807) (hta : ∀ x ∈ b.bl, x.tg.length ≤ 1000000) : Does Try.prog 29 [.agg (gbdD b), i64 p, i64 q] H fun d H' => d = .val (.bool (folB b.g p q)) ∧ H = H' := by
  have hbl := bl_len b
  have hsm := bl_small hc
  refine does_of _ _ Try.func29 rfl rfl Try.ntmps29 Try.results29 (by simp only [List.length_cons, List.length_nil]; omega) fun w0 Q hret => ?_
  (have fs := And.intro @i64.eq_1 @gbdD.eq_1; (repeat (first | refine hGx _ ?_ | refine hNx _ ?_ | refine W_skip ?_ | refine W_exit ?_ | refine W_ret ?_ | refine W_label ?_ | refine W_scope ?_ | refine W_block ?_ | refine W_seq ?_ | ((first | refine tS fun N hNx => ?_ | refine WL_gE rfl rfl (by kernel_rfl) (by kernel_rfl) fun G hGx => ?_ | refine vcOpsS_sound (by kernel_rfl) ?_ | refine W_ifE fun A B hAx hBx => ?_); refine evT ?_; (first | refine hGx _ ?_ | refine hNx _ ?_ | refine hAx ?_ | refine hBx ?_ | skip)))); (try clear fs))
  intro c2 hc2
  refine hNx _ ?_
  refine W_frzp 3 rfl (Heap.upd_same _ _ _) rfl ?_; simp only [St.frzp, put_H, wdf_H, withH_H, withH_put, wdf_withH, withH_withH, init_H, init_withH, Heap.del_upd_same, Heap.del_none hc2, withH_self]
  (have fs := @i64.eq_1; (repeat (first | refine hGx _ ?_ | refine hNx _ ?_ | refine W_skip ?_ | refine W_exit ?_ | refine W_ret ?_ | refine W_label ?_ | refine W_scope ?_ | refine W_block ?_ | refine W_seq ?_ | ((first | refine tS fun N hNx => ?_ | refine WL_gE rfl rfl (by kernel_rfl) (by kernel_rfl) fun G hGx => ?_ | refine vcOpsS_sound (by kernel_rfl) ?_ | refine W_ifE fun A B hAx hBx => ?_); refine evT ?_; (first | refine hGx _ ?_ | refine hNx _ ?_ | refine hAx ?_ | refine hBx ?_ | skip)))); (try clear fs))
  refine (kloc_N b p _ hc hp).mono ?_
  rintro d _ ⟨rfl, rfl⟩
  by_cases hpr : 0 ≤ p ∧ p < cntG b.g
  case neg =>
    rw [locD_no hpr]
    have e := folB_f (G := b.g) (p := p) (q := q) fun h => hpr h.lt.1
    (have fs := @i64.eq_1; (repeat (first | refine hGx _ ?_ | refine hNx _ ?_ | refine W_skip ?_ | refine W_exit ?_ | refine W_ret ?_ | refine W_label ?_ | refine W_scope ?_ | refine W_block ?_ | refine W_seq ?_ | ((first | refine tS fun N hNx => ?_ | refine WL_gE rfl rfl (by kernel_rfl) (by kernel_rfl) fun G hGx => ?_ | refine vcOpsS_sound (by kernel_rfl) ?_ | refine W_ifE fun A B hAx hBx => ?_); refine evT ?_; (first | refine hGx _ ?_ | refine hNx _ ?_ | refine hAx ?_ | refine hBx ?_ | skip)))); (try clear fs))
    (first | (show Q .ret _) | (show Q .normal _) | skip); refine hret _ _ (by first | exact .inr rfl | exact .inl rfl) (by first | rfl | assumption | (simp only [put_df, withH_df]; assumption)) ?_; have fs := @i64.eq_1; refine evT ?_; clear fs
    exact ⟨_, Heap.le_refl _, by rw [e], rfl⟩
  obtain ⟨i, k, hat⟩ := at_iff.2 hpr
  rw [locD_at hat]
  obtain ⟨hil, hk, hpe⟩ := at_b.1 hat
  have hil' : (i : Int) < b.bl.length := by omega
  have hx : (i : Int).toNat = i := Int.toNat_natCast _
  have h00 : (0 : Int) ≤ (i : Int) := Int.natCast_nonneg _
  have hgi := blk_get hil
  have hsu := fun q => (fol_at hat).trans (suc_b (q := q) (k := k) hil)
  have hst := st_small hc hil
  have htx := hta b.bl[i] (List.getElem_mem hil)
  obtain ⟨x, hxe⟩ : ∃ x, x = b.bl[i] := ⟨_, rfl⟩
  rw [← hxe] at hgi hsu hk hst htx
  simp only [gbkD] at hgi
  by_cases hks : k < x.st.length
  · have q1 : ((k : Int) < (x.st.length : Int)) = True := eq_true (by omega)
    have w1 : IntKind.i64.wrap (p + 1) = p + 1 := by rw [wrap_i64_of (by omega)]
    have hsq : Fol b.g p q ↔ q = p + 1 := by
      rw [hsu]
      constructor
      · rintro (⟨_, h⟩ | ⟨h, _⟩) <;> omega
      · intro h; exact .inl ⟨hks, by omega⟩
    (have fs := And.intro @i64.eq_1 (And.intro q1 (And.intro hgi (And.intro hx (And.intro h00 (And.intro hil (And.intro hil' (And.intro hbl w1))))))); (repeat (first | refine hGx _ ?_ | refine hNx _ ?_ | refine W_skip ?_ | refine W_exit ?_ | refine W_ret ?_ | refine W_label ?_ | refine W_scope ?_ | refine W_block ?_ | refine W_seq ?_ | ((first | refine tS fun N hNx => ?_ | refine WL_gE rfl rfl (by kernel_rfl) (by kernel_rfl) fun G hGx => ?_ | refine vcOpsS_sound (by kernel_rfl) ?_ | refine W_ifE fun A B hAx hBx => ?_); refine evT ?_; (first | refine hGx _ ?_ | refine hNx _ ?_ | refine hAx ?_ | refine hBx ?_ | skip)))); (try clear fs))
    (first | (show Q .ret _) | (show Q .normal _) | skip); refine hret _ _ (by first | exact .inr rfl | exact .inl rfl) (by first | rfl | assumption | (simp only [put_df, withH_df]; assumption)) ?_; have fs := @i64.eq_1; refine evT ?_; clear fs
    refine ⟨_, Heap.le_refl _, ?_, rfl⟩
    by_cases hq : q = p + 1
    · rw [folB_t (hsq.2 hq), decide_eq_true hq]
    · rw [folB_f fun h => hq (hsq.1 h), decide_eq_false hq]
  have q1 : ((k : Int) < (x.st.length : Int)) = False := eq_false (by omega)
  have hsq : Fol b.g p q ↔ ∃ t ∈ x.tg, 0 ≤ t ∧ t < b.bl.length ∧ q = fstG b.g t.toNat := by
    rw [hsu]
    constructor
    · rintro (⟨h, _⟩ | ⟨_, h⟩)
      · omega
      · exact h
    · intro h; exact .inr ⟨by omega, h⟩
  have htl : (List.map iD x.tg).length = x.tg.length := List.length_map _
  (have fs := And.intro @i64.eq_1 (And.intro q1 (And.intro hgi (And.intro hx (And.intro h00 (And.intro hil (And.intro hil' hbl)))))); (repeat (first | refine hGx _ ?_ | refine hNx _ ?_ | refine W_skip ?_ | refine W_exit ?_ | refine W_ret ?_ | refine W_label ?_ | refine W_scope ?_ | refine W_block ?_ | refine W_seq ?_ | ((first | refine tS fun N hNx => ?_ | refine WL_gE rfl rfl (by kernel_rfl) (by kernel_rfl) fun G hGx => ?_ | refine vcOpsS_sound (by kernel_rfl) ?_ | refine W_ifE fun A B hAx hBx => ?_); refine evT ?_; (first | refine hGx _ ?_ | refine hNx _ ?_ | refine hAx ?_ | refine hBx ?_ | skip)))); (try clear fs))
  refine W_loopN x.tg.length (fun j s => s.df = [] ∧ s.fr 2 = i64 q ∧ s.fr 3 = .rp (gbdD b) ∧ s.fr 10 = .seq 1 (x.tg.map iD) ∧ s.fr 11 = i64 j ∧ s.H = H ∧ ∀ (t : Nat) (h : t < x.tg.length), t < j → ¬ (0 ≤ x.tg[t] ∧ x.tg[t] < b.bl.length ∧ q = fstG b.g x.tg[t].toNat)) ⟨rfl, rfl, rfl, rfl, rfl, rfl, by omega⟩ ?_
  rintro j s hj ⟨hdf, f2, f3, f10, f11, hH, hno⟩
  simp only [gbdD] at f3
  have hxj : (j : Int).toNat = j := Int.toNat_natCast _
  have h0j : (0 : Int) ≤ (j : Int) := Int.natCast_nonneg _
  by_cases hjl : j < x.tg.length
  case neg =>
    have q2 : ((j : Int) < (x.tg.length : Int)) = False := eq_false (by omega)
    have e : folB b.g p q = false := folB_f fun h => by
      obtain ⟨t, ht, h1⟩ := hsq.1 h
      obtain ⟨m, hm, rfl⟩ := List.getElem_of_mem ht
      exact hno m hm (by omega) h1
    (have fs := And.intro f10 (And.intro f11 (And.intro @i64.eq_1 (And.intro q2 htl))); (repeat (first | refine hGx _ ?_ | refine hNx _ ?_ | refine W_skip ?_ | refine W_exit ?_ | refine W_ret ?_ | refine W_label ?_ | refine W_scope ?_ | refine W_block ?_ | refine W_seq ?_ | ((first | refine tS fun N hNx => ?_ | refine WL_gE rfl rfl (by kernel_rfl) (by kernel_rfl) fun G hGx => ?_ | refine vcOpsS_sound (by kernel_rfl) ?_ | refine W_ifE fun A B hAx hBx => ?_); refine evT ?_; (first | refine hGx _ ?_ | refine hNx _ ?_ | refine hAx ?_ | refine hBx ?_ | skip)))); (try clear fs))
    (first | (show Q .ret _) | (show Q .normal _) | skip); refine hret _ _ (by first | exact .inr rfl | exact .inl rfl) (by first | rfl | assumption | (simp only [put_df, withH_df]; assumption)) ?_; have fs := hdf; refine evT ?_; clear fs
    exact ⟨_, Heap.le_refl _, by rw [e], hH.symm⟩
  have q2 : ((j : Int) < (x.tg.length : Int)) = True := eq_true (by omega)
  have hgj := get_ints hjl
  have w3 : IntKind.i64.wrap ((j : Int) + 1) = ((j + 1 : Nat) : Int) := by rw [wrap_i64_of (by omega)]; omega
  have hmem := List.getElem_mem hjl
  have hext : ∀ P : Prop, P → (P → ¬ (0 ≤ x.tg[j] ∧ x.tg[j] < b.bl.length ∧ q = fstG b.g x.tg[j].toNat)) → ∀ (t : Nat) (h : t < x.tg.length), t < j + 1 → ¬ (0 ≤ x.tg[t] ∧ x.tg[t] < b.bl.length ∧ q = fstG b.g x.tg[t].toNat) := fun P hP hn t h ht => by
    by_cases e : t = j
    · subst e; exact hn hP
    · exact hno t h (by omega)
  obtain ⟨t, hte⟩ : ∃ t, t = x.tg[j] := ⟨_, rfl⟩
  rw [← hte] at hgj hext hmem
  (have fs := And.intro f10 (And.intro f11 (And.intro @i64.eq_1 (And.intro q2 htl))); (repeat (first | refine hGx _ ?_ | refine hNx _ ?_ | refine W_skip ?_ | refine W_exit ?_ | refine W_ret ?_ | refine W_label ?_ | refine W_scope ?_ | refine W_block ?_ | refine W_seq ?_ | ((first | refine tS fun N hNx => ?_ | refine WL_gE rfl rfl (by kernel_rfl) (by kernel_rfl) fun G hGx => ?_ | refine vcOpsS_sound (by kernel_rfl) ?_ | refine W_ifE fun A B hAx hBx => ?_); refine evT ?_; (first | refine hGx _ ?_ | refine hNx _ ?_ | refine hAx ?_ | refine hBx ?_ | skip)))); (try clear fs))
  by_cases ht0 : 0 ≤ t
  case neg =>
    have q3 : (0 ≤ t) = False := eq_false ht0
    refine W_drawE (fun _ _ _ _ => False) (by kernel_rfl) (by kernel_rfl) (by kernel_rfl) fun N hNx => ?_; (have fs := And.intro f2 (And.intro f3 (And.intro f10 (And.intro f11 (And.intro @i64.eq_1 (And.intro htl (And.intro hgj (And.intro hxj (And.intro h0j (And.intro hjl q3))))))))); (repeat ((first | refine vcD_g rfl rfl fun G hGx => ?_ | refine vcDS_to ?_); refine evD ?_; (first | refine hGx _ ?_ | refine hNx _ ?_ | skip))); (try clear fs))
    (have fs := And.intro f11 (And.intro @i64.eq_1 w3); (repeat (first | refine hGx _ ?_ | refine hNx _ ?_ | refine W_skip ?_ | refine W_exit ?_ | refine W_ret ?_ | refine W_label ?_ | refine W_scope ?_ | refine W_block ?_ | refine W_seq ?_ | ((first | refine tS fun N hNx => ?_ | refine WL_gE rfl rfl (by kernel_rfl) (by kernel_rfl) fun G hGx => ?_ | refine vcOpsS_sound (by kernel_rfl) ?_ | refine W_ifE fun A B hAx hBx => ?_); refine evT ?_; (first | refine hGx _ ?_ | refine hNx _ ?_ | refine hAx ?_ | refine hBx ?_ | skip)))); (try clear fs))
    exact ⟨hjl, hdf, f2, f3, f10, rfl, hH, hext _ ht0 fun h h2 => h h2.1⟩
  have q3 : (0 ≤ t) = True := eq_true ht0
  by_cases htb : t < b.bl.length
  case neg =>
    have q4 : (t < (b.bl.length : Int)) = False := eq_false htb
    refine W_drawE (fun _ _ _ _ => False) (by kernel_rfl) (by kernel_rfl) (by kernel_rfl) fun N hNx => ?_; (have fs := And.intro f2 (And.intro f3 (And.intro f10 (And.intro f11 (And.intro @i64.eq_1 (And.intro htl (And.intro hgj (And.intro hxj (And.intro h0j (And.intro hjl (And.intro q3 (And.intro q4 hbl))))))))))); (repeat ((first | refine vcD_g rfl rfl fun G hGx => ?_ | refine vcDS_to ?_); refine evD ?_; (first | refine hGx _ ?_ | refine hNx _ ?_ | skip))); (try clear fs))
    (have fs := And.intro f11 (And.intro @i64.eq_1 w3); (repeat (first | refine hGx _ ?_ | refine hNx _ ?_ | refine W_skip ?_ | refine W_exit ?_ | refine W_ret ?_ | refine W_label ?_ | refine W_scope ?_ | refine W_block ?_ | refine W_seq ?_ | ((first | refine tS fun N hNx => ?_ | refine WL_gE rfl rfl (by kernel_rfl) (by kernel_rfl) fun G hGx => ?_ | refine vcOpsS_sound (by kernel_rfl) ?_ | refine W_ifE fun A B hAx hBx => ?_); refine evT ?_; (first | refine hGx _ ?_ | refine hNx _ ?_ | refine hAx ?_ | refine hBx ?_ | skip)))); (try clear fs))
    exact ⟨hjl, hdf, f2, f3, f10, rfl, hH, hext _ htb fun h h2 => h h2.2.1⟩
  have q4 : (t < (b.bl.length : Int)) = True := eq_true htb
  have hcall : CallOK Try.prog 26 [.agg (gbdD b), i64 t] s.H fun d A => A = Heap.none ∧ d = i64 (fstG b.g t.toNat) := callOK_eq fun H'' hle'' => kfirst_N b t H'' hc
  simp only [gbdD] at hcall
  by_cases hq : (fstG b.g t.toNat : Int) = q
  · have q5 : ((fstG b.g t.toNat : Int) = q) = True := eq_true hq
    have e : folB b.g p q = true := folB_t (hsq.2 ⟨t, hmem, ht0, htb, hq.symm⟩)
    refine W_drawE (fun _ _ d A => A = .none ∧ d = i64 (fstG b.g t.toNat)) (by kernel_rfl) (by kernel_rfl) (by kernel_rfl) fun N hNx => ?_; (have fs := And.intro f2 (And.intro f3 (And.intro f10 (And.intro f11 (And.intro @i64.eq_1 (And.intro htl (And.intro hgj (And.intro hxj (And.intro h0j (And.intro hjl (And.intro q3 (And.intro q4 hbl))))))))))); (repeat ((first | refine vcD_g rfl rfl fun G hGx => ?_ | refine vcDS_to ?_); refine evD ?_; (first | refine hGx _ ?_ | refine hNx _ ?_ | skip))); (try clear fs))
    refine ⟨hcall, ?_⟩
    (first | refine hGx _ ?_ | refine hNx _ ?_ | skip)
    (have fs := And.intro @i64.eq_1 (And.intro f2 q5); (repeat ((first | refine vcD_g rfl rfl fun G hGx => ?_ | refine vcDS_to ?_); refine evD ?_; (first | refine hGx _ ?_ | refine hNx _ ?_ | skip))); (try clear fs))
    (have fs := @i64.eq_1; (repeat (first | refine hGx _ ?_ | refine hNx _ ?_ | refine W_skip ?_ | refine W_exit ?_ | refine W_ret ?_ | refine W_label ?_ | refine W_scope ?_ | refine W_block ?_ | refine W_seq ?_ | ((first | refine tS fun N hNx => ?_ | refine WL_gE rfl rfl (by kernel_rfl) (by kernel_rfl) fun G hGx => ?_ | refine vcOpsS_sound (by kernel_rfl) ?_ | refine W_ifE fun A B hAx hBx => ?_); refine evT ?_; (first | refine hGx _ ?_ | refine hNx _ ?_ | refine hAx ?_ | refine hBx ?_ | skip)))); (try clear fs))
    (first | (show Q .ret _) | (show Q .normal _) | skip); refine hret _ _ (by first | exact .inr rfl | exact .inl rfl) (by first | rfl | assumption | (simp only [put_df, withH_df]; assumption)) ?_; have fs := hdf; refine evT ?_; clear fs
    exact ⟨_, Heap.le_refl _, by rw [e], hH.symm⟩
  · have q5 : ((fstG b.g t.toNat : Int) = q) = False := eq_false hq
    refine W_drawE (fun _ _ d A => A = .none ∧ d = i64 (fstG b.g t.toNat)) (by kernel_rfl) (by kernel_rfl) (by kernel_rfl) fun N hNx => ?_; (have fs := And.intro f2 (And.intro f3 (And.intro f10 (And.intro f11 (And.intro @i64.eq_1 (And.intro htl (And.intro hgj (And.intro hxj (And.intro h0j (And.intro hjl (And.intro q3 (And.intro q4 hbl))))))))))); (repeat ((first | refine vcD_g rfl rfl fun G hGx => ?_ | refine vcDS_to ?_); refine evD ?_; (first | refine hGx _ ?_ | refine hNx _ ?_ | skip))); (try clear fs))
    refine ⟨hcall, ?_⟩
    (first | refine hGx _ ?_ | refine hNx _ ?_ | skip)
    (have fs := And.intro @i64.eq_1 (And.intro f2 q5); (repeat ((first | refine vcD_g rfl rfl fun G hGx => ?_ | refine vcDS_to ?_); refine evD ?_; (first | refine hGx _ ?_ | refine hNx _ ?_ | skip))); (try clear fs))
    (have fs := And.intro f11 (And.intro @i64.eq_1 w3); (repeat (first | refine hGx _ ?_ | refine hNx _ ?_ | refine W_skip ?_ | refine W_exit ?_ | refine W_ret ?_ | refine W_label ?_ | refine W_scope ?_ | refine W_block ?_ | refine W_seq ?_ | ((first | refine tS fun N hNx => ?_ | refine WL_gE rfl rfl (by kernel_rfl) (by kernel_rfl) fun G hGx => ?_ | refine vcOpsS_sound (by kernel_rfl) ?_ | refine W_ifE fun A B hAx hBx => ?_); refine evT ?_; (first | refine hGx _ ?_ | refine hNx _ ?_ | refine hAx ?_ | refine hBx ?_ | skip)))); (try clear fs))
    exact ⟨hjl, hdf, f2, f3, f10, rfl, hH, hext _ hq fun h h2 => h h2.2.2.symm⟩
open Classical in
noncomputable def nxtP (G : Gr) (p : Int) (n : Nat) : List Int := (ups n).filter fun q => decide (Fol G p q)
theorem nxtP_all (G : Gr) (p : Int) : nxtP G p (cntG G) = nxt G p := rfl
theorem nxtP_zero (G : Gr) (p : Int) : nxtP G p 0 = [] := rfl
theorem nxtP_t {G : Gr} {p : Int} {n : Nat} (h : Fol G p n) : nxtP G p (n + 1) = nxtP G p n ++ [(n : Int)] := by
  unfold nxtP
  rw [ups_succ, List.filter_append]
  congr 1
  simp [h]
theorem nxtP_f {G : Gr} {p : Int} {n : Nat} (h : ¬ Fol G p n) : nxtP G p (n + 1) = nxtP G p n := by
  unfold nxtP
  rw [ups_succ, List.filter_append]
  simp [h]
theorem nxtP_len (G : Gr) (p : Int) (n : Nat) : (nxtP G p n).length ≤ n := by
  have := List.length_filter_le (fun q => @decide (Fol G p q) (Classical.propDecidable _)) (ups n)
  rw [ups_len] at this
  exact this
set_option maxHeartbeats 1000000 in
theorem knextR_N (b : GBdy) (p : Int) (H : Heap) (hc : cntG b.g ≤ 1000000) (hp : p ≤ 9223372036854775807) (hta : ∀ x ∈ b.bl, x.tg.length ≤ 1000000) : Does Try.prog 19 [.agg (gbdD b), i64 p] H fun d H' => ∃ ob, Gl H 3 1 ((nxt b.g p).map iD) d H' ob ∧ H.le H' := by
  refine does_of _ _ Try.func19 rfl rfl Try.ntmps19 Try.results19 (by simp only [List.length_cons, List.length_nil]; omega) fun w0 Q hret => ?_
  (have fs := And.intro @i64.eq_1 @gbdD.eq_1; (repeat (first | refine hGx _ ?_ | refine hNx _ ?_ | refine W_skip ?_ | refine W_exit ?_ | refine W_ret ?_ | refine W_label ?_ | refine W_scope ?_ | refine W_block ?_ | refine W_seq ?_ | ((first | refine tS fun N hNx => ?_ | refine WL_gE rfl rfl (by kernel_rfl) (by kernel_rfl) fun G hGx => ?_ | refine vcOpsS_sound (by kernel_rfl) ?_ | refine W_ifE fun A B hAx hBx => ?_); refine evT ?_; (first | refine hGx _ ?_ | refine hNx _ ?_ | refine hAx ?_ | refine hBx ?_ | skip)))); (try clear fs))
  intro c2 hc2
  refine hNx _ ?_
  refine W_frzp 2 rfl (Heap.upd_same _ _ _) rfl ?_; simp only [St.frzp, put_H, wdf_H, withH_H, withH_put, wdf_withH, withH_withH, init_H, init_withH, Heap.del_upd_same, Heap.del_none hc2, withH_self]
  (have fs := @i64.eq_1; (repeat (first | refine hGx _ ?_ | refine hNx _ ?_ | refine W_skip ?_ | refine W_exit ?_ | refine W_ret ?_ | refine W_label ?_ | refine W_scope ?_ | refine W_block ?_ | refine W_seq ?_ | ((first | refine tS fun N hNx => ?_ | refine WL_gE rfl rfl (by kernel_rfl) (by kernel_rfl) fun G hGx => ?_ | refine vcOpsS_sound (by kernel_rfl) ?_ | refine W_ifE fun A B hAx hBx => ?_); refine evT ?_; (first | refine hGx _ ?_ | refine hNx _ ?_ | refine hAx ?_ | refine hBx ?_ | skip)))); (try clear fs))
  refine W_loopN (cntG b.g) (fun i s => s.df = [] ∧ s.fr 1 = i64 p ∧ s.fr 2 = .rp (gbdD b) ∧ s.fr 6 = i64 i ∧ H.le s.H ∧ ∃ ob, Gl H 3 1 ((nxtP b.g p i).map iD) (s.fr 5) s.H ob) ⟨rfl, rfl, rfl, rfl, Heap.le_refl _, none, Gl.nil _ _ _ _⟩ ?_
  rintro i s hi ⟨hdf, f1, f2, f6, hle, ob, hg⟩
  simp only [gbdD] at f2
  (have fs := And.intro f2 (And.intro f6 @i64.eq_1); (repeat (first | refine hGx _ ?_ | refine hNx _ ?_ | refine W_skip ?_ | refine W_exit ?_ | refine W_ret ?_ | refine W_label ?_ | refine W_scope ?_ | refine W_block ?_ | refine W_seq ?_ | ((first | refine tS fun N hNx => ?_ | refine WL_gE rfl rfl (by kernel_rfl) (by kernel_rfl) fun G hGx => ?_ | refine vcOpsS_sound (by kernel_rfl) ?_ | refine W_ifE fun A B hAx hBx => ?_); refine evT ?_; (first | refine hGx _ ?_ | refine hNx _ ?_ | refine hAx ?_ | refine hBx ?_ | skip)))); (try clear fs))
  refine (kcount_N b _ hc).mono ?_
  rintro d _ ⟨rfl, rfl⟩
  by_cases hil : i < cntG b.g
  case neg =>
    have q1 : ((i : Int) < (cntG b.g : Int)) = False := eq_false (by omega)
    have e : i = cntG b.g := by omega
    subst e
    (have fs := And.intro f2 (And.intro f6 (And.intro @i64.eq_1 q1)); (repeat (first | refine hGx _ ?_ | refine hNx _ ?_ | refine W_skip ?_ | refine W_exit ?_ | refine W_ret ?_ | refine W_label ?_ | refine W_scope ?_ | refine W_block ?_ | refine W_seq ?_ | ((first | refine tS fun N hNx => ?_ | refine WL_gE rfl rfl (by kernel_rfl) (by kernel_rfl) fun G hGx => ?_ | refine vcOpsS_sound (by kernel_rfl) ?_ | refine W_ifE fun A B hAx hBx => ?_); refine evT ?_; (first | refine hGx _ ?_ | refine hNx _ ?_ | refine hAx ?_ | refine hBx ?_ | skip)))); (try clear fs))
    (first | (show Q .ret _) | (show Q .normal _) | skip); refine hret _ _ (by first | exact .inr rfl | exact .inl rfl) (by first | rfl | assumption | (simp only [put_df, withH_df]; assumption)) ?_; have fs := hdf; refine evT ?_; clear fs
    exact ⟨_, Heap.le_refl _, ob, hg, hle⟩
  have q1 : ((i : Int) < (cntG b.g : Int)) = True := eq_true (by omega)
  have w3 : IntKind.i64.wrap ((i : Int) + 1) = ((i + 1 : Nat) : Int) := by rw [wrap_i64_of (by omega)]; omega
  (have fs := And.intro f1 (And.intro f2 (And.intro f6 (And.intro @i64.eq_1 q1))); (repeat (first | refine hGx _ ?_ | refine hNx _ ?_ | refine W_skip ?_ | refine W_exit ?_ | refine W_ret ?_ | refine W_label ?_ | refine W_scope ?_ | refine W_block ?_ | refine W_seq ?_ | ((first | refine tS fun N hNx => ?_ | refine WL_gE rfl rfl (by kernel_rfl) (by kernel_rfl) fun G hGx => ?_ | refine vcOpsS_sound (by kernel_rfl) ?_ | refine W_ifE fun A B hAx hBx => ?_); refine evT ?_; (first | refine hGx _ ?_ | refine hNx _ ?_ | refine hAx ?_ | refine hBx ?_ | skip)))); (try clear fs))
  refine (kfol_N b p i _ hc hp hta).mono ?_
  rintro d _ ⟨rfl, rfl⟩
  by_cases hf : Fol b.g p i
  case neg =>
    rw [folB_f hf]
    (have fs := And.intro f6 (And.intro @i64.eq_1 w3); (repeat (first | refine hGx _ ?_ | refine hNx _ ?_ | refine W_skip ?_ | refine W_exit ?_ | refine W_ret ?_ | refine W_label ?_ | refine W_scope ?_ | refine W_block ?_ | refine W_seq ?_ | ((first | refine tS fun N hNx => ?_ | refine WL_gE rfl rfl (by kernel_rfl) (by kernel_rfl) fun G hGx => ?_ | refine vcOpsS_sound (by kernel_rfl) ?_ | refine W_ifE fun A B hAx hBx => ?_); refine evT ?_; (first | refine hGx _ ?_ | refine hNx _ ?_ | refine hAx ?_ | refine hBx ?_ | skip)))); (try clear fs))
    exact ⟨hil, hdf, f1, f2, rfl, hle, ob, by rw [nxtP_f hf]; exact hg⟩
  rw [folB_t hf]
  have hl := nxtP_len b.g p i
  (have fs := And.intro f6 @i64.eq_1; (repeat (first | refine hGx _ ?_ | refine hNx _ ?_ | refine W_skip ?_ | refine W_exit ?_ | refine W_ret ?_ | refine W_label ?_ | refine W_scope ?_ | refine W_block ?_ | refine W_seq ?_ | ((first | refine tS fun N hNx => ?_ | refine WL_gE rfl rfl (by kernel_rfl) (by kernel_rfl) fun G hGx => ?_ | refine vcOpsS_sound (by kernel_rfl) ?_ | refine W_ifE fun A B hAx hBx => ?_); refine evT ?_; (first | refine hGx _ ?_ | refine hNx _ ?_ | refine hAx ?_ | refine hBx ?_ | skip)))); (try clear fs))
  refine apV_grow (e := 3) ty43 rfl ty43 rfl ty3 rfl (by decide) hle hg (new := [iD i]) (by exact ⟨rfl, rfl⟩) (by rw [List.length_map]; show (_ + 1) * 8 ≤ _; omega) fun d H6 ob6 hg6 hle6 _ => ?_
  (have fs := And.intro f6 (And.intro @i64.eq_1 w3); (repeat (first | refine hGx _ ?_ | refine hNx _ ?_ | refine W_skip ?_ | refine W_exit ?_ | refine W_ret ?_ | refine W_label ?_ | refine W_scope ?_ | refine W_block ?_ | refine W_seq ?_ | ((first | refine tS fun N hNx => ?_ | refine WL_gE rfl rfl (by kernel_rfl) (by kernel_rfl) fun G hGx => ?_ | refine vcOpsS_sound (by kernel_rfl) ?_ | refine W_ifE fun A B hAx hBx => ?_); refine evT ?_; (first | refine hGx _ ?_ | refine hNx _ ?_ | refine hAx ?_ | refine hBx ?_ | skip)))); (try clear fs))
  exact ⟨hil, hdf, f1, f2, rfl, hle6, ob6, by rw [nxtP_t hf, List.map_append]; exact hg6⟩
theorem knext_N (b : GBdy) (p : Int) (H : Heap) (hc : cntG b.g ≤ 1000000) (hp : p ≤ 9223372036854775807) (hta : ∀ x ∈ b.bl, x.tg.length ≤ 1000000) : Does Try.prog 19 [.agg (gbdD b), i64 p] H fun d H' => d = .seq 1 ((nxt b.g p).map iD) ∧ H = H' :=
  Does.frz (K := fun d => d = .seq 1 ((nxt b.g p).map iD)) ((knextR_N b p H hc hp hta).mono fun d H' ⟨ob, h1, h2⟩ => ⟨h2, _, frz_gl h2 h1, rfl⟩)
noncomputable def edgP (G : Gr) (n : Nat) : List (Int × Int) := (ups n).flatMap fun p => (nxt G p).map fun q => (p, q)
theorem edgP_succ (G : Gr) (n : Nat) : edgP G (n + 1) = edgP G n ++ (nxt G n).map fun q => ((n : Int), q) := by
  unfold edgP
  rw [ups_succ, List.flatMap_append]
  simp
theorem edgP_len (G : Gr) (n : Nat) : (edgP G n).length ≤ n * cntG G := by
  induction n with
  | zero => simp [edgP, ups]
  | succ n ih =>
    rw [edgP_succ, List.length_append, List.length_map, Nat.succ_mul]
    have := nxt_len G n
    omega
theorem edgP_len2 {G : Gr} {n : Nat} (hc : cntG G ≤ 1000000) (hn : n ≤ cntG G) : (edgP G n).length ≤ 1000000000000 := by
  have h1 := edgP_len G n
  have h2 : n * cntG G ≤ 1000000 * 1000000 := Nat.mul_le_mul (by omega) hc
  omega
set_option maxHeartbeats 1000000 in
theorem kedges_N (b : GBdy) (H : Heap) (hc : cntG b.g ≤ 1000000) (hta : ∀ x ∈ b.bl, x.tg.length ≤ 1000000) : Does Try.prog 22 [.agg (gbdD b)] H fun d H' => d = .seq 2 ((edgs b.g).map pD) ∧ H = H' := by
  refine Does.frz (K := fun d => d = .seq 2 ((edgs b.g).map pD)) ?_
  refine does_of _ _ Try.func22 rfl rfl Try.ntmps22 Try.results22 (by simp only [List.length_cons, List.length_nil]; omega) fun w0 Q hret => ?_
  (have fs := And.intro @i64.eq_1 @gbdD.eq_1; (repeat (first | refine hGx _ ?_ | refine hNx _ ?_ | refine W_skip ?_ | refine W_exit ?_ | refine W_ret ?_ | refine W_label ?_ | refine W_scope ?_ | refine W_block ?_ | refine W_seq ?_ | ((first | refine tS fun N hNx => ?_ | refine WL_gE rfl rfl (by kernel_rfl) (by kernel_rfl) fun G hGx => ?_ | refine vcOpsS_sound (by kernel_rfl) ?_ | refine W_ifE fun A B hAx hBx => ?_); refine evT ?_; (first | refine hGx _ ?_ | refine hNx _ ?_ | refine hAx ?_ | refine hBx ?_ | skip)))); (try clear fs))
  intro c2 hc2
  refine hNx _ ?_
  refine W_frzp 1 rfl (Heap.upd_same _ _ _) rfl ?_; simp only [St.frzp, put_H, wdf_H, withH_H, withH_put, wdf_withH, withH_withH, init_H, init_withH, Heap.del_upd_same, Heap.del_none hc2, withH_self]
  (have fs := @i64.eq_1; (repeat (first | refine hGx _ ?_ | refine hNx _ ?_ | refine W_skip ?_ | refine W_exit ?_ | refine W_ret ?_ | refine W_label ?_ | refine W_scope ?_ | refine W_block ?_ | refine W_seq ?_ | ((first | refine tS fun N hNx => ?_ | refine WL_gE rfl rfl (by kernel_rfl) (by kernel_rfl) fun G hGx => ?_ | refine vcOpsS_sound (by kernel_rfl) ?_ | refine W_ifE fun A B hAx hBx => ?_); refine evT ?_; (first | refine hGx _ ?_ | refine hNx _ ?_ | refine hAx ?_ | refine hBx ?_ | skip)))); (try clear fs))
  refine W_loopN (cntG b.g) (fun i s => s.df = [] ∧ s.fr 1 = .rp (gbdD b) ∧ s.fr 4 = i64 i ∧ H.le s.H ∧ ∃ ob, Gl H 25 2 ((edgP b.g i).map pD) (s.fr 3) s.H ob) ⟨rfl, rfl, rfl, Heap.le_refl _, none, Gl.nil _ _ _ _⟩ ?_
  rintro i s hi ⟨hdf, f1, f4, hle, ob, hg⟩
  simp only [gbdD] at f1
  (have fs := And.intro f1 (And.intro f4 @i64.eq_1); (repeat (first | refine hGx _ ?_ | refine hNx _ ?_ | refine W_skip ?_ | refine W_exit ?_ | refine W_ret ?_ | refine W_label ?_ | refine W_scope ?_ | refine W_block ?_ | refine W_seq ?_ | ((first | refine tS fun N hNx => ?_ | refine WL_gE rfl rfl (by kernel_rfl) (by kernel_rfl) fun G hGx => ?_ | refine vcOpsS_sound (by kernel_rfl) ?_ | refine W_ifE fun A B hAx hBx => ?_); refine evT ?_; (first | refine hGx _ ?_ | refine hNx _ ?_ | refine hAx ?_ | refine hBx ?_ | skip)))); (try clear fs))
  refine (kcount_N b _ hc).mono ?_
  rintro d _ ⟨rfl, rfl⟩
  by_cases hil : i < cntG b.g
  case neg =>
    have q1 : ((i : Int) < (cntG b.g : Int)) = False := eq_false (by omega)
    have e : i = cntG b.g := by omega
    subst e
    (have fs := And.intro f1 (And.intro f4 (And.intro @i64.eq_1 q1)); (repeat (first | refine hGx _ ?_ | refine hNx _ ?_ | refine W_skip ?_ | refine W_exit ?_ | refine W_ret ?_ | refine W_label ?_ | refine W_scope ?_ | refine W_block ?_ | refine W_seq ?_ | ((first | refine tS fun N hNx => ?_ | refine WL_gE rfl rfl (by kernel_rfl) (by kernel_rfl) fun G hGx => ?_ | refine vcOpsS_sound (by kernel_rfl) ?_ | refine W_ifE fun A B hAx hBx => ?_); refine evT ?_; (first | refine hGx _ ?_ | refine hNx _ ?_ | refine hAx ?_ | refine hBx ?_ | skip)))); (try clear fs))
    (first | (show Q .ret _) | (show Q .normal _) | skip); refine hret _ _ (by first | exact .inr rfl | exact .inl rfl) (by first | rfl | assumption | (simp only [put_df, withH_df]; assumption)) ?_; have fs := hdf; refine evT ?_; clear fs
    exact ⟨_, Heap.le_refl _, hle, _, frz_gl hle hg, rfl⟩
  have q1 : ((i : Int) < (cntG b.g : Int)) = True := eq_true (by omega)
  have w3 : IntKind.i64.wrap ((i : Int) + 1) = ((i + 1 : Nat) : Int) := by rw [wrap_i64_of (by omega)]; omega
  (have fs := And.intro f1 (And.intro f4 (And.intro @i64.eq_1 q1)); (repeat (first | refine hGx _ ?_ | refine hNx _ ?_ | refine W_skip ?_ | refine W_exit ?_ | refine W_ret ?_ | refine W_label ?_ | refine W_scope ?_ | refine W_block ?_ | refine W_seq ?_ | ((first | refine tS fun N hNx => ?_ | refine WL_gE rfl rfl (by kernel_rfl) (by kernel_rfl) fun G hGx => ?_ | refine vcOpsS_sound (by kernel_rfl) ?_ | refine W_ifE fun A B hAx hBx => ?_); refine evT ?_; (first | refine hGx _ ?_ | refine hNx _ ?_ | refine hAx ?_ | refine hBx ?_ | skip)))); (try clear fs))
  refine (knext_N b i _ hc (by omega) hta).mono ?_
  rintro d _ ⟨rfl, rfl⟩
  have hnl := nxt_len b.g i
  have hml : (List.map iD (nxt b.g i)).length = (nxt b.g i).length := List.length_map _
  have hel := edgP_len2 hc hi
  obtain ⟨L, hL⟩ : ∃ L, L = nxt b.g i := ⟨_, rfl⟩
  rw [← hL] at hnl hml ⊢
  (have fs := @i64.eq_1; (repeat (first | refine hGx _ ?_ | refine hNx _ ?_ | refine W_skip ?_ | refine W_exit ?_ | refine W_ret ?_ | refine W_label ?_ | refine W_scope ?_ | refine W_block ?_ | refine W_seq ?_ | ((first | refine tS fun N hNx => ?_ | refine WL_gE rfl rfl (by kernel_rfl) (by kernel_rfl) fun G hGx => ?_ | refine vcOpsS_sound (by kernel_rfl) ?_ | refine W_ifE fun A B hAx hBx => ?_); refine evT ?_; (first | refine hGx _ ?_ | refine hNx _ ?_ | refine hAx ?_ | refine hBx ?_ | skip)))); (try clear fs))
  refine W_loopN L.length (fun j s => s.df = [] ∧ s.fr 1 = .rp (gbdD b) ∧ s.fr 4 = i64 i ∧ s.fr 5 = .seq 1 (L.map iD) ∧ s.fr 6 = i64 j ∧ H.le s.H ∧ ∃ ob, Gl H 25 2 ((edgP b.g i ++ (L.take j).map fun q => ((i : Int), q)).map pD) (s.fr 3) s.H ob) ⟨hdf, f1, f4, rfl, rfl, hle, ob, by rw [List.take_zero, List.map_nil, List.append_nil]; exact hg⟩ ?_
  rintro j s2 hj ⟨gdf, g1, g4, g5, g6, gle, ob2, gg⟩
  have hxj : (j : Int).toNat = j := Int.toNat_natCast _
  have h0j : (0 : Int) ≤ (j : Int) := Int.natCast_nonneg _
  by_cases hjl : j < L.length
  case neg =>
    have q2 : ((j : Int) < (L.length : Int)) = False := eq_false (by omega)
    rw [List.take_of_length_le (by omega), hL, ← edgP_succ] at gg
    (have fs := And.intro g4 (And.intro g5 (And.intro g6 (And.intro @i64.eq_1 (And.intro q2 (And.intro hml w3))))); (repeat (first | refine hGx _ ?_ | refine hNx _ ?_ | refine W_skip ?_ | refine W_exit ?_ | refine W_ret ?_ | refine W_label ?_ | refine W_scope ?_ | refine W_block ?_ | refine W_seq ?_ | ((first | refine tS fun N hNx => ?_ | refine WL_gE rfl rfl (by kernel_rfl) (by kernel_rfl) fun G hGx => ?_ | refine vcOpsS_sound (by kernel_rfl) ?_ | refine W_ifE fun A B hAx hBx => ?_); refine evT ?_; (first | refine hGx _ ?_ | refine hNx _ ?_ | refine hAx ?_ | refine hBx ?_ | skip)))); (try clear fs))
    exact ⟨hil, gdf, g1, rfl, gle, ob2, gg⟩
  have q2 : ((j : Int) < (L.length : Int)) = True := eq_true (by omega)
  have hgj := get_ints hjl
  have w4 : IntKind.i64.wrap ((j : Int) + 1) = ((j + 1 : Nat) : Int) := by rw [wrap_i64_of (by omega)]; omega
  (have fs := And.intro g4 (And.intro g5 (And.intro g6 (And.intro @i64.eq_1 (And.intro q2 (And.intro hml (And.intro hgj (And.intro hxj (And.intro h0j hjl)))))))); (repeat (first | refine hGx _ ?_ | refine hNx _ ?_ | refine W_skip ?_ | refine W_exit ?_ | refine W_ret ?_ | refine W_label ?_ | refine W_scope ?_ | refine W_block ?_ | refine W_seq ?_ | ((first | refine tS fun N hNx => ?_ | refine WL_gE rfl rfl (by kernel_rfl) (by kernel_rfl) fun G hGx => ?_ | refine vcOpsS_sound (by kernel_rfl) ?_ | refine W_ifE fun A B hAx hBx => ?_); refine evT ?_; (first | refine hGx _ ?_ | refine hNx _ ?_ | refine hAx ?_ | refine hBx ?_ | skip)))); (try clear fs))
  refine apV_grow (e := 25) ty27 rfl ty27 rfl ty25 rfl (by decide) gle gg (new := [pD ((i : Int), L[j])]) (by exact ⟨rfl, rfl⟩) (by rw [List.length_map, List.length_append, List.length_map, List.length_take]; show (_ + 1) * 16 ≤ _; omega) fun d H6 ob6 hg6 hle6 _ => ?_
  (have fs := And.intro g6 (And.intro @i64.eq_1 w4); (repeat (first | refine hGx _ ?_ | refine hNx _ ?_ | refine W_skip ?_ | refine W_exit ?_ | refine W_ret ?_ | refine W_label ?_ | refine W_scope ?_ | refine W_block ?_ | refine W_seq ?_ | ((first | refine tS fun N hNx => ?_ | refine WL_gE rfl rfl (by kernel_rfl) (by kernel_rfl) fun G hGx => ?_ | refine vcOpsS_sound (by kernel_rfl) ?_ | refine W_ifE fun A B hAx hBx => ?_); refine evT ?_; (first | refine hGx _ ?_ | refine hNx _ ?_ | refine hAx ?_ | refine hBx ?_ | skip)))); (try clear fs))
  have e : (edgP b.g i ++ (L.take (j + 1)).map fun q => ((i : Int), q)).map pD = (edgP b.g i ++ (L.take j).map fun q => ((i : Int), q)).map pD ++ [pD ((i : Int), L[j])] := by
    rw [List.take_succ_eq_append_getElem hjl]; simp only [List.map_append, List.map_cons, List.map_nil, List.append_assoc]
  exact ⟨hjl, gdf, g1, g4, g5, rfl, hle6, ob6, by rw [e]; exact hg6⟩
end Go.Proofs.Ytdbeimlancnncaa
