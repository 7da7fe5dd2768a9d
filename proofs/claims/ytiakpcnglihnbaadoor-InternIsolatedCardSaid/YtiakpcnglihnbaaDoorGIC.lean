/- Lemmas and contracts of functions, several texts in one: I4 I5 I6. -/
import Derived.Test.YtiakpcnglihnbaaDoorGIA
import Derived.Test.YtiakpcnglihnbaaDoorGY
import Derived.Test.YtiakpcnglihnbaaDoorGSS
import Derived.Test.YtiakpcnglihnbaaDoorGM
/- intern: New, Len, At. -/
namespace Go.Proofs.YtiakpcnglihnbaaDoor
open Go.RowKit
set_option linter.unusedVariables false
set_option maxRecDepth 100000
set_option linter.unusedSimpArgs false
theorem bstr_of' (s : ByteArray) : ∃ l : List UInt8, s = bstr l ∧ l.length = s.size := ⟨s.data.toList, by cases s; simp [bstr], Array.length_toList⟩
theorem isid_N (s : ByteArray) (H : Heap) (hs : big s.size) : Does Tryd.prog 9 [strD s] H fun d H' => d = .val (.bool (isId s)) ∧ H = H' := by
  obtain ⟨l, rfl, hl⟩ := bstr_of' s
  unfold isId
  rw [bstr_toList]
  exact isid_L l H (by rw [hl]; exact hs)
theorem kisid_N (s : ByteArray) (H : Heap) (hs : big s.size) : Does Tryd.prog 10 [strD s] H fun d H' => d = .val (.bool (isId s)) ∧ H = H' := by
  obtain ⟨l, rfl, hl⟩ := bstr_of' s
  unfold isId
  rw [bstr_toList]
  exact kisid_L l H (by rw [hl]; exact hs)
theorem compactS_frz {Hb H : Heap} {b o : Nat} {T : TypeId} {l : List ByteArray} (hle : Hb.le H) (h0 : Hb b = none) (hb : H b = some (.row T o 1 (l.map sD))) (hl : l.length ≤ 140737488351232) :
    Does Tryd.prog 28 [.os b o 1 0 l.length] H fun d H' => d = .seq 1 ((cmpS l).map sD) ∧ Hb = H' :=
  (compactS_own hb hl).redesc fun d H' ⟨hd, cur, hH, hcur⟩ => by
    subst hd hH
    have hle2 : Hb.le (H.upd b (.row T o 1 (cur.map sD))) := Heap.le_put hle h0
    have hnl : (cmpS l).length ≤ cur.length := by have := congrArg List.length hcur; rw [List.length_take] at this; omega
    refine ⟨_, Hb, fun k hk => Heap.none_of hle2 hk, fun w hw => hw.less hle2, frz_row (k := 0) hle2 (Heap.upd_same _ _ _) h0 (by rw [List.length_map]; omega), ?_, rfl⟩
    rw [List.drop_zero, ← List.map_take, hcur]
def nilP : D := .val (.pointer none)
/-- A table. -/
def tabD (l : List ByteArray) : D := .rp [.seq 1 (l.map sD)]
/-- What New returns. -/
def newD (l : List ByteArray) : D := if (∀ s ∈ l, isId s = true) then .tup [tabD (insAll l), i64 0] else .tup [nilP, i64 12]
set_option maxHeartbeats 1000000 in
theorem new_N (l : List ByteArray) (H : Heap) (hl : l.length ≤ 1000000) (hs : ∀ s ∈ l, big s.size) : Does Tryd.prog 12 [.seq 1 (l.map sD)] H fun d H' => d = newD l ∧ H = H' := by
  refine Does.frz (K := fun d => d = newD l) ?_
  have hml : (List.map sD l).length = l.length := List.length_map _
  refine does_of _ _ Tryd.func12 rfl rfl Tryd.ntmps12 Tryd.results12 (by simp only [List.length_cons, List.length_nil]; omega) fun w0 Q hret => ?_
  (have fs := And.intro @i64.eq_1 hml; (repeat (first | refine hGx _ ?_ | refine hNx _ ?_ | refine W_skip ?_ | refine W_exit ?_ | refine W_ret ?_ | refine W_label ?_ | refine W_scope ?_ | refine W_block ?_ | refine W_seq ?_ | ((first | refine tS fun N hNx => ?_ | refine WL_gE rfl rfl (by kernel_rfl) (by kernel_rfl) fun G hGx => ?_ | refine vcOpsS_sound (by kernel_rfl) ?_ | refine W_ifE fun A B hAx hBx => ?_); refine evT ?_; (first | refine hGx _ ?_ | refine hNx _ ?_ | refine hAx ?_ | refine hBx ?_ | skip)))); (try clear fs))
  refine W_loopN l.length (fun i s => s.df = [] ∧ s.fr 0 = .seq 1 (l.map sD) ∧ s.fr 7 = .seq 1 (l.map sD) ∧ s.fr 8 = i64 l.length ∧ s.fr 9 = i64 i ∧ s.H = H ∧ ∀ s ∈ l.take i, isId s = true) ⟨rfl, rfl, rfl, rfl, rfl, rfl, by intro s hs; cases hs⟩ ?_
  rintro i s hi ⟨hdf, f0, f7, f8, f9, hH, ha⟩
  have hx : (i : Int).toNat = i := Int.toNat_natCast _
  have h00 : (0 : Int) ≤ (i : Int) := Int.natCast_nonneg _
  by_cases hil : i < l.length
  case neg =>
    have p1 : ((i : Int) < (l.length : Int)) = False := eq_false (by omega)
    rw [List.take_of_length_le (by omega)] at ha
    have hd : newD l = .tup [tabD (insAll l), i64 0] := if_pos ha
    rw [← names_eq] at hd
    (have fs := And.intro f0 (And.intro f7 (And.intro f8 (And.intro f9 (And.intro @i64.eq_1 p1)))); (repeat (first | refine hGx _ ?_ | refine hNx _ ?_ | refine W_skip ?_ | refine W_exit ?_ | refine W_ret ?_ | refine W_label ?_ | refine W_scope ?_ | refine W_block ?_ | refine W_seq ?_ | ((first | refine tS fun N hNx => ?_ | refine WL_gE rfl rfl (by kernel_rfl) (by kernel_rfl) fun G hGx => ?_ | refine vcOpsS_sound (by kernel_rfl) ?_ | refine W_ifE fun A B hAx hBx => ?_); refine evT ?_; (first | refine hGx _ ?_ | refine hNx _ ?_ | refine hAx ?_ | refine hBx ?_ | skip)))); (try clear fs))
    refine (clS_N (l.map sD) _ (by rw [hml]; exact hl)).mono ?_
    rintro d H1 (⟨rfl, h0, rfl⟩ | ⟨b, o, hb, rfl, rfl⟩)
    · have hl0 : l = [] := by simpa using h0
      (have fs := And.intro f0 (And.intro f7 (And.intro f8 (And.intro f9 @i64.eq_1))); (repeat (first | refine hGx _ ?_ | refine hNx _ ?_ | refine W_skip ?_ | refine W_exit ?_ | refine W_ret ?_ | refine W_label ?_ | refine W_scope ?_ | refine W_block ?_ | refine W_seq ?_ | ((first | refine tS fun N hNx => ?_ | refine WL_gE rfl rfl (by kernel_rfl) (by kernel_rfl) fun G hGx => ?_ | refine vcOpsS_sound (by kernel_rfl) ?_ | refine W_ifE fun A B hAx hBx => ?_); refine evT ?_; (first | refine hGx _ ?_ | refine hNx _ ?_ | refine hAx ?_ | refine hBx ?_ | skip)))); (try clear fs))
      refine (sortS_nil _).mono ?_
      rintro d _ ⟨rfl, rfl⟩
      (have fs := And.intro f0 (And.intro f7 (And.intro f8 (And.intro f9 @i64.eq_1))); (repeat (first | refine hGx _ ?_ | refine hNx _ ?_ | refine W_skip ?_ | refine W_exit ?_ | refine W_ret ?_ | refine W_label ?_ | refine W_scope ?_ | refine W_block ?_ | refine W_seq ?_ | ((first | refine tS fun N hNx => ?_ | refine WL_gE rfl rfl (by kernel_rfl) (by kernel_rfl) fun G hGx => ?_ | refine vcOpsS_sound (by kernel_rfl) ?_ | refine W_ifE fun A B hAx hBx => ?_); refine evT ?_; (first | refine hGx _ ?_ | refine hNx _ ?_ | refine hAx ?_ | refine hBx ?_ | skip)))); (try clear fs))
      refine (compactS_nil _).mono ?_
      rintro d _ ⟨rfl, rfl⟩
      have he : cmpS (sortS l) = [] := by rw [hl0, names_eq]; rfl
      refine WL_as 22 (.seq 1 ((cmpS (sortS l)).map sD)) (fun w v hv => by rw [he]; exact imp_nil _ _ _ hv) ?_
      (have fs := And.intro f0 (And.intro f7 (And.intro f8 (And.intro f9 @i64.eq_1))); (repeat (first | refine hGx _ ?_ | refine hNx _ ?_ | refine W_skip ?_ | refine W_exit ?_ | refine W_ret ?_ | refine W_label ?_ | refine W_scope ?_ | refine W_block ?_ | refine W_seq ?_ | ((first | refine tS fun N hNx => ?_ | refine WL_gE rfl rfl (by kernel_rfl) (by kernel_rfl) fun G hGx => ?_ | refine vcOpsS_sound (by kernel_rfl) ?_ | refine W_ifE fun A B hAx hBx => ?_); refine evT ?_; (first | refine hGx _ ?_ | refine hNx _ ?_ | refine hAx ?_ | refine hBx ?_ | skip)))); (try clear fs))
      intro c hc
      refine hNx _ ?_
      (have fs := @i64.eq_1; (repeat (first | refine hGx _ ?_ | refine hNx _ ?_ | refine W_skip ?_ | refine W_exit ?_ | refine W_ret ?_ | refine W_label ?_ | refine W_scope ?_ | refine W_block ?_ | refine W_seq ?_ | ((first | refine tS fun N hNx => ?_ | refine WL_gE rfl rfl (by kernel_rfl) (by kernel_rfl) fun G hGx => ?_ | refine vcOpsS_sound (by kernel_rfl) ?_ | refine W_ifE fun A B hAx hBx => ?_); refine evT ?_; (first | refine hGx _ ?_ | refine hNx _ ?_ | refine hAx ?_ | refine hBx ?_ | skip)))); (try clear fs))
      (first | (show Q .ret _) | (show Q .normal _) | skip); refine hret _ _ (by first | exact .inr rfl | exact .inl rfl) (by first | rfl | assumption | (simp only [put_df, withH_df]; assumption)) ?_; have fs := hdf; refine evT ?_; clear fs
      rw [hH] at hc ⊢
      have hle6 := Heap.le_put (x := .row 51 0 1 [[.seq 1 ((cmpS (sortS l)).map sD)]]) (Heap.le_refl H) hc
      exact ⟨_, Heap.le_refl _, hle6, .tup [tabD (cmpS (sortS l)), i64 0], frz_tup ⟨frz_ep hle6 (Heap.upd_same _ _ _) hc rfl, frz_refl hle6, trivial⟩, by rw [hd]⟩
    · rw [hml]
      have hc0 : H b = none := by rw [← hH]; exact hb
      (have fs := And.intro f0 (And.intro f7 (And.intro f8 (And.intro f9 @i64.eq_1))); (repeat (first | refine hGx _ ?_ | refine hNx _ ?_ | refine W_skip ?_ | refine W_exit ?_ | refine W_ret ?_ | refine W_label ?_ | refine W_scope ?_ | refine W_block ?_ | refine W_seq ?_ | ((first | refine tS fun N hNx => ?_ | refine WL_gE rfl rfl (by kernel_rfl) (by kernel_rfl) fun G hGx => ?_ | refine vcOpsS_sound (by kernel_rfl) ?_ | refine W_ifE fun A B hAx hBx => ?_); refine evT ?_; (first | refine hGx _ ?_ | refine hNx _ ?_ | refine hAx ?_ | refine hBx ?_ | skip)))); (try clear fs))
      refine (sortS_own (Heap.upd_same _ _ _) (by omega)).mono ?_
      rintro d _ ⟨rfl, rfl⟩
      rw [upd_twice]
      (have fs := And.intro f0 (And.intro f7 (And.intro f8 (And.intro f9 @i64.eq_1))); (repeat (first | refine hGx _ ?_ | refine hNx _ ?_ | refine W_skip ?_ | refine W_exit ?_ | refine W_ret ?_ | refine W_label ?_ | refine W_scope ?_ | refine W_block ?_ | refine W_seq ?_ | ((first | refine tS fun N hNx => ?_ | refine WL_gE rfl rfl (by kernel_rfl) (by kernel_rfl) fun G hGx => ?_ | refine vcOpsS_sound (by kernel_rfl) ?_ | refine W_ifE fun A B hAx hBx => ?_); refine evT ?_; (first | refine hGx _ ?_ | refine hNx _ ?_ | refine hAx ?_ | refine hBx ?_ | skip)))); (try clear fs))
      have h6 := compactS_frz (Hb := H) (T := 9) (o := o) (l := sortS l) (Heap.le_put (by rw [hH]; exact Heap.le_refl _) hc0) hc0 (Heap.upd_same s.H b _) (by rw [sortS_length]; omega)
      rw [sortS_length] at h6
      refine h6.mono ?_
      rintro d _ ⟨rfl, rfl⟩
      (have fs := And.intro f0 (And.intro f7 (And.intro f8 (And.intro f9 @i64.eq_1))); (repeat (first | refine hGx _ ?_ | refine hNx _ ?_ | refine W_skip ?_ | refine W_exit ?_ | refine W_ret ?_ | refine W_label ?_ | refine W_scope ?_ | refine W_block ?_ | refine W_seq ?_ | ((first | refine tS fun N hNx => ?_ | refine WL_gE rfl rfl (by kernel_rfl) (by kernel_rfl) fun G hGx => ?_ | refine vcOpsS_sound (by kernel_rfl) ?_ | refine W_ifE fun A B hAx hBx => ?_); refine evT ?_; (first | refine hGx _ ?_ | refine hNx _ ?_ | refine hAx ?_ | refine hBx ?_ | skip)))); (try clear fs))
      intro c hc
      refine hNx _ ?_
      (have fs := @i64.eq_1; (repeat (first | refine hGx _ ?_ | refine hNx _ ?_ | refine W_skip ?_ | refine W_exit ?_ | refine W_ret ?_ | refine W_label ?_ | refine W_scope ?_ | refine W_block ?_ | refine W_seq ?_ | ((first | refine tS fun N hNx => ?_ | refine WL_gE rfl rfl (by kernel_rfl) (by kernel_rfl) fun G hGx => ?_ | refine vcOpsS_sound (by kernel_rfl) ?_ | refine W_ifE fun A B hAx hBx => ?_); refine evT ?_; (first | refine hGx _ ?_ | refine hNx _ ?_ | refine hAx ?_ | refine hBx ?_ | skip)))); (try clear fs))
      (first | (show Q .ret _) | (show Q .normal _) | skip); refine hret _ _ (by first | exact .inr rfl | exact .inl rfl) (by first | rfl | assumption | (simp only [put_df, withH_df]; assumption)) ?_; have fs := hdf; refine evT ?_; clear fs
      have hle6 := Heap.le_put (x := .row 51 0 1 [[.seq 1 ((cmpS (sortS l)).map sD)]]) (Heap.le_refl H) hc
      exact ⟨_, Heap.le_refl _, hle6, .tup [tabD (cmpS (sortS l)), i64 0], frz_tup ⟨frz_ep hle6 (Heap.upd_same _ _ _) hc rfl, frz_refl hle6, trivial⟩, by rw [hd]⟩
  have hil' : (i : Int) < (l.length : Int) := by omega
  have p1 : ((i : Int) < (l.length : Int)) = True := eq_true hil'
  have hgi := get_strs hil
  have w3 : IntKind.i64.wrap ((i : Int) + 1) = ((i + 1 : Nat) : Int) := by rw [wrap_i64_of (by omega)]; omega
  (have fs := And.intro f0 (And.intro f7 (And.intro f8 (And.intro f9 (And.intro @i64.eq_1 (And.intro p1 (And.intro hml (And.intro hgi (And.intro hx (And.intro h00 hil))))))))); (repeat (first | refine hGx _ ?_ | refine hNx _ ?_ | refine W_skip ?_ | refine W_exit ?_ | refine W_ret ?_ | refine W_label ?_ | refine W_scope ?_ | refine W_block ?_ | refine W_seq ?_ | ((first | refine tS fun N hNx => ?_ | refine WL_gE rfl rfl (by kernel_rfl) (by kernel_rfl) fun G hGx => ?_ | refine vcOpsS_sound (by kernel_rfl) ?_ | refine W_ifE fun A B hAx hBx => ?_); refine evT ?_; (first | refine hGx _ ?_ | refine hNx _ ?_ | refine hAx ?_ | refine hBx ?_ | skip)))); (try clear fs))
  refine (isid_N l[i] _ (hs _ (List.getElem_mem hil))).mono ?_
  rintro d _ ⟨rfl, rfl⟩
  cases hid : isId l[i]
  · have hd : newD l = .tup [nilP, i64 12] := if_neg fun h => by rw [h _ (List.getElem_mem hil)] at hid; cases hid
    (have fs := And.intro f0 (And.intro f7 (And.intro f8 (And.intro f9 @i64.eq_1))); (repeat (first | refine hGx _ ?_ | refine hNx _ ?_ | refine W_skip ?_ | refine W_exit ?_ | refine W_ret ?_ | refine W_label ?_ | refine W_scope ?_ | refine W_block ?_ | refine W_seq ?_ | ((first | refine tS fun N hNx => ?_ | refine WL_gE rfl rfl (by kernel_rfl) (by kernel_rfl) fun G hGx => ?_ | refine vcOpsS_sound (by kernel_rfl) ?_ | refine W_ifE fun A B hAx hBx => ?_); refine evT ?_; (first | refine hGx _ ?_ | refine hNx _ ?_ | refine hAx ?_ | refine hBx ?_ | skip)))); (try clear fs))
    (first | (show Q .ret _) | (show Q .normal _) | skip); refine hret _ _ (by first | exact .inr rfl | exact .inl rfl) (by first | rfl | assumption | (simp only [put_df, withH_df]; assumption)) ?_; have fs := hdf; refine evT ?_; clear fs
    exact ⟨_, Heap.le_refl _, by rw [hH]; exact Heap.le_refl _, .tup [nilP, i64 12], by rw [hH]; exact frz_refl (Heap.le_refl _), hd.symm⟩
  · (have fs := And.intro f0 (And.intro f7 (And.intro f8 (And.intro f9 (And.intro @i64.eq_1 w3)))); (repeat (first | refine hGx _ ?_ | refine hNx _ ?_ | refine W_skip ?_ | refine W_exit ?_ | refine W_ret ?_ | refine W_label ?_ | refine W_scope ?_ | refine W_block ?_ | refine W_seq ?_ | ((first | refine tS fun N hNx => ?_ | refine WL_gE rfl rfl (by kernel_rfl) (by kernel_rfl) fun G hGx => ?_ | refine vcOpsS_sound (by kernel_rfl) ?_ | refine W_ifE fun A B hAx hBx => ?_); refine evT ?_; (first | refine hGx _ ?_ | refine hNx _ ?_ | refine hAx ?_ | refine hBx ?_ | skip)))); (try clear fs))
    refine ⟨hil, hdf, f0, f7, f8, rfl, hH, fun s hs => ?_⟩
    rw [List.take_succ_eq_append_getElem hil] at hs
    rcases List.mem_append.1 hs with h | h
    · exact ha s h
    · rw [List.mem_singleton.1 h]; exact hid
set_option maxHeartbeats 1000000 in
theorem sortSearch_N (n : Nat) (hn : n ≤ 140737488351232) (g : FuncId) (caps : List D) (f : Nat → Bool) (H : Heap) (hf : ∀ k < n, Does Tryd.prog g (i64 k :: caps) H fun d H' => d = .val (.bool (f k)) ∧ H = H')
    (hm : ∀ k m, k ≤ m → m < n → f k = true → f m = true) : Does Tryd.prog 55 [i64 n, .fn g caps] H fun d H' => (∃ i : Nat, d = i64 i ∧ i ≤ n ∧ (∀ k < i, f k = false) ∧ ∀ k, i ≤ k → k < n → f k = true) ∧ H = H' := by
  refine does_of _ _ Tryd.func55 rfl rfl Tryd.ntmps55 Tryd.results55 (by simp only [List.length_cons, List.length_nil]; omega) fun w0 Q hret => ?_
  (have fs := @i64.eq_1; (repeat (first | refine hGx _ ?_ | refine hNx _ ?_ | refine W_skip ?_ | refine W_exit ?_ | refine W_ret ?_ | refine W_label ?_ | refine W_scope ?_ | refine W_block ?_ | refine W_seq ?_ | ((first | refine tS fun N hNx => ?_ | refine WL_gE rfl rfl (by kernel_rfl) (by kernel_rfl) fun G hGx => ?_ | refine vcOpsS_sound (by kernel_rfl) ?_ | refine W_ifE fun A B hAx hBx => ?_); refine evT ?_; (first | refine hGx _ ?_ | refine hNx _ ?_ | refine hAx ?_ | refine hBx ?_ | skip)))); (try clear fs))
  refine W_loopM (fun m s => s.df = [] ∧ s.fr 1 = .fn g caps ∧ s.H = H ∧ ∃ i j : Nat, s.fr 5 = i64 i ∧ s.fr 6 = i64 j ∧ m = j - i ∧ i ≤ j ∧ j ≤ n ∧ (∀ k < i, f k = false) ∧ ∀ k, j ≤ k → k < n → f k = true) n ⟨rfl, rfl, rfl, 0, n, rfl, rfl, rfl, Nat.zero_le _, Nat.le_refl _, fun k h => absurd h (by omega), fun k h1 h2 => absurd h2 (by omega)⟩ ?_
  rintro m s ⟨hdf, f1, hH, i, j, f5, f6, rfl, hij, hjn, ha, hb⟩
  by_cases hlt : i < j
  case neg =>
    have p1 : ((i : Int) < (j : Int)) = False := eq_false (by omega)
    have e : j = i := by omega
    (have fs := And.intro f1 (And.intro f5 (And.intro f6 (And.intro @i64.eq_1 p1))); (repeat (first | refine hGx _ ?_ | refine hNx _ ?_ | refine W_skip ?_ | refine W_exit ?_ | refine W_ret ?_ | refine W_label ?_ | refine W_scope ?_ | refine W_block ?_ | refine W_seq ?_ | ((first | refine tS fun N hNx => ?_ | refine WL_gE rfl rfl (by kernel_rfl) (by kernel_rfl) fun G hGx => ?_ | refine vcOpsS_sound (by kernel_rfl) ?_ | refine W_ifE fun A B hAx hBx => ?_); refine evT ?_; (first | refine hGx _ ?_ | refine hNx _ ?_ | refine hAx ?_ | refine hBx ?_ | skip)))); (try clear fs))
    (first | (show Q .ret _) | (show Q .normal _) | skip); refine hret _ _ (by first | exact .inr rfl | exact .inl rfl) (by first | rfl | assumption | (simp only [put_df, withH_df]; assumption)) ?_; have fs := f5; refine evT ?_; clear fs
    exact ⟨_, Heap.le_refl _, ⟨i, rfl, by omega, ha, fun k h => hb k (by omega)⟩, hH.symm⟩
  have p1 : ((i : Int) < (j : Int)) = True := eq_true (by omega)
  obtain ⟨h, hh⟩ : ∃ h, h = (i + j) / 2 := ⟨_, rfl⟩
  have w1 : IntKind.i64.wrap ((i : Int) + (j : Int)) = ((i + j : Nat) : Int) := by rw [wrap_i64_of (by omega)]; omega
  have w2 : IntKind.u64.wrap ((i + j : Nat) : Int) = ((i + j : Nat) : Int) := by rw [IntKind.wrap_u64]; omega
  have w3 : ((i + j : Nat) : Int).fdiv (2 ^ min 1 64) = (h : Int) := by
    rw [show ((2 : Int) ^ min 1 64) = 2 by decide, Int.fdiv_eq_ediv_of_nonneg _ (by omega)]; omega
  have w4 : IntKind.i64.wrap (h : Int) = (h : Int) := wrap_i64_of (by omega)
  have w5 : IntKind.u64.wrap (h : Int) = (h : Int) := by rw [IntKind.wrap_u64]; omega
  (have fs := And.intro f1 (And.intro f5 (And.intro f6 (And.intro @i64.eq_1 (And.intro p1 (And.intro w1 (And.intro w2 (And.intro w3 (And.intro w4 w5)))))))); (repeat (first | refine hGx _ ?_ | refine hNx _ ?_ | refine W_skip ?_ | refine W_exit ?_ | refine W_ret ?_ | refine W_label ?_ | refine W_scope ?_ | refine W_block ?_ | refine W_seq ?_ | ((first | refine tS fun N hNx => ?_ | refine WL_gE rfl rfl (by kernel_rfl) (by kernel_rfl) fun G hGx => ?_ | refine vcOpsS_sound (by kernel_rfl) ?_ | refine W_ifE fun A B hAx hBx => ?_); refine evT ?_; (first | refine hGx _ ?_ | refine hNx _ ?_ | refine hAx ?_ | refine hBx ?_ | skip)))); (try clear fs))
  have hq := hf h (by omega)
  rw [← hH] at hq
  refine hq.mono ?_
  rintro d _ ⟨rfl, rfl⟩
  have w6 : IntKind.i64.wrap ((h : Int) + 1) = ((h + 1 : Nat) : Int) := by rw [wrap_i64_of (by omega)]; omega
  cases hfh : f h
  · (have fs := And.intro f1 (And.intro f5 (And.intro f6 (And.intro @i64.eq_1 w6))); (repeat (first | refine hGx _ ?_ | refine hNx _ ?_ | refine W_skip ?_ | refine W_exit ?_ | refine W_ret ?_ | refine W_label ?_ | refine W_scope ?_ | refine W_block ?_ | refine W_seq ?_ | ((first | refine tS fun N hNx => ?_ | refine WL_gE rfl rfl (by kernel_rfl) (by kernel_rfl) fun G hGx => ?_ | refine vcOpsS_sound (by kernel_rfl) ?_ | refine W_ifE fun A B hAx hBx => ?_); refine evT ?_; (first | refine hGx _ ?_ | refine hNx _ ?_ | refine hAx ?_ | refine hBx ?_ | skip)))); (try clear fs))
    refine ⟨j - (h + 1), by show _ < _; omega, hdf, f1, hH, h + 1, j, rfl, f6, rfl, by omega, hjn, fun k hk => ?_, hb⟩
    cases hfk : f k
    · rfl
    · rw [hm k h (by omega) (by omega) hfk] at hfh; cases hfh
  · (have fs := And.intro f1 (And.intro f5 (And.intro f6 @i64.eq_1)); (repeat (first | refine hGx _ ?_ | refine hNx _ ?_ | refine W_skip ?_ | refine W_exit ?_ | refine W_ret ?_ | refine W_label ?_ | refine W_scope ?_ | refine W_block ?_ | refine W_seq ?_ | ((first | refine tS fun N hNx => ?_ | refine WL_gE rfl rfl (by kernel_rfl) (by kernel_rfl) fun G hGx => ?_ | refine vcOpsS_sound (by kernel_rfl) ?_ | refine W_ifE fun A B hAx hBx => ?_); refine evT ?_; (first | refine hGx _ ?_ | refine hNx _ ?_ | refine hAx ?_ | refine hBx ?_ | skip)))); (try clear fs))
    exact ⟨h - i, by show _ < _; omega, hdf, f1, hH, i, h, f5, rfl, rfl, by omega, by omega, ha, fun k hk hkn => hm h k hk hkn hfh⟩
/-- A call of the closure that search makes. -/
theorem search1_N (l : List ByteArray) (hl : l.length ≤ 140737488351232) (g : FuncId) (caps : List D) (p : ByteArray → Bool) (H : Heap) (hp : ∀ s ∈ l, ∀ H, Does Tryd.prog g (strD s :: caps) H fun d H' => d = .val (.bool (p s)) ∧ H = H') (k : Nat) (hk : k < l.length) :
    Does Tryd.prog 56 [i64 k, .rp [.fn g caps], .rp [.seq 1 (l.map sD)]] H fun d H' => d = .val (.bool (!p l[k])) ∧ H = H' := by
  have hx : (k : Int).toNat = k := Int.toNat_natCast _
  have h00 : (0 : Int) ≤ (k : Int) := Int.natCast_nonneg _
  have hgi := get_strs hk
  have hml : (List.map sD l).length = l.length := List.length_map _
  have hil' : (k : Int) < (l.length : Int) := by omega
  refine does_of _ _ Tryd.func56 rfl rfl Tryd.ntmps56 Tryd.results56 (by simp only [List.length_cons, List.length_nil]; omega) fun w0 Q hret => ?_
  (have fs := @i64.eq_1; (repeat (first | refine hGx _ ?_ | refine hNx _ ?_ | refine W_skip ?_ | refine W_exit ?_ | refine W_ret ?_ | refine W_label ?_ | refine W_scope ?_ | refine W_block ?_ | refine W_seq ?_ | ((first | refine tS fun N hNx => ?_ | refine WL_gE rfl rfl (by kernel_rfl) (by kernel_rfl) fun G hGx => ?_ | refine vcOpsS_sound (by kernel_rfl) ?_ | refine W_ifE fun A B hAx hBx => ?_); refine evT ?_; (first | refine hGx _ ?_ | refine hNx _ ?_ | refine hAx ?_ | refine hBx ?_ | skip)))); (try clear fs))
  refine W_drawE (fun t _ d A => A = .none ∧ d = .val (.bool (p l[k]))) (by kernel_rfl) (by kernel_rfl) (by kernel_rfl) fun N hNx => ?_; (have fs := And.intro @i64.eq_1 (And.intro hgi (And.intro hx (And.intro h00 (And.intro hml hil')))); (repeat ((first | refine vcD_g rfl rfl fun G hGx => ?_ | refine vcDS_to ?_); refine evD ?_; (first | refine hGx _ ?_ | refine hNx _ ?_ | skip))); (try clear fs))
  refine ⟨callOK_eq fun H'' hle'' => (hp l[k] (List.getElem_mem hk) H'').mono fun d H' h => h, ?_⟩
  (first | refine hGx _ ?_ | refine hNx _ ?_ | skip)
  (have fs := @i64.eq_1; (repeat ((first | refine vcD_g rfl rfl fun G hGx => ?_ | refine vcDS_to ?_); refine evD ?_; (first | refine hGx _ ?_ | refine hNx _ ?_ | skip))); (try clear fs))
  (first | refine hGx _ ?_ | refine hNx _ ?_ | skip)
  (have fs := @i64.eq_1; (repeat (first | refine hGx _ ?_ | refine hNx _ ?_ | refine W_skip ?_ | refine W_exit ?_ | refine W_ret ?_ | refine W_label ?_ | refine W_scope ?_ | refine W_block ?_ | refine W_seq ?_ | ((first | refine tS fun N hNx => ?_ | refine WL_gE rfl rfl (by kernel_rfl) (by kernel_rfl) fun G hGx => ?_ | refine vcOpsS_sound (by kernel_rfl) ?_ | refine W_ifE fun A B hAx hBx => ?_); refine evT ?_; (first | refine hGx _ ?_ | refine hNx _ ?_ | refine hAx ?_ | refine hBx ?_ | skip)))); (try clear fs))
  (first | (show Q .ret _) | (show Q .normal _) | skip); refine hret _ _ (by first | exact .inr rfl | exact .inl rfl) (by first | rfl | assumption | (simp only [put_df, withH_df]; assumption)) ?_; have fs := @i64.eq_1; refine evT ?_; clear fs
  (first | exact ⟨_, Heap.le_refl _, rfl⟩ | exact ⟨_, Heap.le_refl _, rfl, rfl⟩)
theorem search_N (l : List ByteArray) (hl : l.length ≤ 140737488351232) (g : FuncId) (caps : List D) (p : ByteArray → Bool) (H : Heap) (hp : ∀ s ∈ l, ∀ H, Does Tryd.prog g (strD s :: caps) H fun d H' => d = .val (.bool (p s)) ∧ H = H')
    (hm : ∀ (k m : Nat) (h1 : k < l.length) (h2 : m < l.length), k ≤ m → p l[m] = true → p l[k] = true) : Does Tryd.prog 29 [.seq 1 (l.map sD), .fn g caps] H fun d H' => (∃ i : Nat, d = i64 i ∧ i ≤ l.length ∧ (∀ (k : Nat) (h : k < l.length), k < i → p l[k] = true) ∧ ∀ (k : Nat) (h : k < l.length), i ≤ k → p l[k] = false) ∧ H = H' := by
  have hml : (List.map sD l).length = l.length := List.length_map _
  refine does_of _ _ Tryd.func29 rfl rfl Tryd.ntmps29 Tryd.results29 (by simp only [List.length_cons, List.length_nil]; omega) fun w0 Q hret => ?_
  (have fs := @i64.eq_1; (repeat (first | refine hGx _ ?_ | refine hNx _ ?_ | refine W_skip ?_ | refine W_exit ?_ | refine W_ret ?_ | refine W_label ?_ | refine W_scope ?_ | refine W_block ?_ | refine W_seq ?_ | ((first | refine tS fun N hNx => ?_ | refine WL_gE rfl rfl (by kernel_rfl) (by kernel_rfl) fun G hGx => ?_ | refine vcOpsS_sound (by kernel_rfl) ?_ | refine W_ifE fun A B hAx hBx => ?_); refine evT ?_; (first | refine hGx _ ?_ | refine hNx _ ?_ | refine hAx ?_ | refine hBx ?_ | skip)))); (try clear fs))
  intro c2 hc2 c3 hc3
  refine hNx _ ?_
  refine W_frzp 3 rfl (Heap.upd_same _ _ _) rfl ?_; simp only [St.frzp, put_H, wdf_H, withH_H, withH_put, wdf_withH, withH_withH, init_H, init_withH, Heap.del_upd_same, Heap.del_none hc3, withH_self]
  refine W_frzp 2 rfl (Heap.upd_same _ _ _) rfl ?_; simp only [St.frzp, put_H, wdf_H, withH_H, withH_put, wdf_withH, withH_withH, init_H, init_withH, Heap.del_upd_same, Heap.del_none hc2, withH_self]
  (have fs := And.intro @i64.eq_1 hml; (repeat (first | refine hGx _ ?_ | refine hNx _ ?_ | refine W_skip ?_ | refine W_exit ?_ | refine W_ret ?_ | refine W_label ?_ | refine W_scope ?_ | refine W_block ?_ | refine W_seq ?_ | ((first | refine tS fun N hNx => ?_ | refine WL_gE rfl rfl (by kernel_rfl) (by kernel_rfl) fun G hGx => ?_ | refine vcOpsS_sound (by kernel_rfl) ?_ | refine W_ifE fun A B hAx hBx => ?_); refine evT ?_; (first | refine hGx _ ?_ | refine hNx _ ?_ | refine hAx ?_ | refine hBx ?_ | skip)))); (try clear fs))
  refine (sortSearch_N l.length hl 56 [.rp [.fn g caps], .rp [.seq 1 (l.map sD)]] (fun k => if h : k < l.length then !p l[k] else true) _ (fun k hk => (search1_N l hl g caps p _ hp k hk).mono fun d H' h => ⟨by rw [h.1, dif_pos hk], h.2⟩) (fun k m hkm hml hk => ?_)).mono ?_
  · have hkl : k < l.length := by omega
    simp only [dif_pos hml, dif_pos hkl] at hk ⊢
    cases e : p l[m]
    · rfl
    · rw [hm k m hkl hml hkm e] at hk; cases hk
  rintro d _ ⟨⟨i, rfl, hi, ha, hb⟩, rfl⟩
  (have fs := @i64.eq_1; (repeat (first | refine hGx _ ?_ | refine hNx _ ?_ | refine W_skip ?_ | refine W_exit ?_ | refine W_ret ?_ | refine W_label ?_ | refine W_scope ?_ | refine W_block ?_ | refine W_seq ?_ | ((first | refine tS fun N hNx => ?_ | refine WL_gE rfl rfl (by kernel_rfl) (by kernel_rfl) fun G hGx => ?_ | refine vcOpsS_sound (by kernel_rfl) ?_ | refine W_ifE fun A B hAx hBx => ?_); refine evT ?_; (first | refine hGx _ ?_ | refine hNx _ ?_ | refine hAx ?_ | refine hBx ?_ | skip)))); (try clear fs))
  (first | (show Q .ret _) | (show Q .normal _) | skip); refine hret _ _ (by first | exact .inr rfl | exact .inl rfl) (by first | rfl | assumption | (simp only [put_df, withH_df]; assumption)) ?_; have fs := @i64.eq_1; refine evT ?_; clear fs
  refine ⟨_, Heap.le_refl _, ⟨i, rfl, hi, fun k hk hki => ?_, fun k hk hki => ?_⟩, rfl⟩
  · have := ha k hki
    simpa only [dif_pos hk, Bool.not_eq_false'] using this
  · have := hb k hki hk
    simpa only [dif_pos hk, Bool.not_eq_true'] using this
instance (a b : ByteArray) : Decidable (ltB a b) := inferInstanceAs (Decidable (a.toList < b.toList))
/-- The closure of Index. -/
theorem idx1_N (x s : ByteArray) (H : Heap) : Does Tryd.prog 30 [strD x, .rp [strD s]] H fun d H' => d = .val (.bool (decide (ltB x s))) ∧ H = H' := by
  have e : Op.bytesLess x.toList s.toList = decide (ltB x s) := by rw [Go.Proofs.bytesLess_eq]; rfl
  refine does_of _ _ Tryd.func30 rfl rfl Tryd.ntmps30 Tryd.results30 (by simp only [List.length_cons, List.length_nil]; omega) fun w0 Q hret => ?_
  (have fs := And.intro @i64.eq_1 (And.intro @strD.eq_1 e); (repeat (first | refine hGx _ ?_ | refine hNx _ ?_ | refine W_skip ?_ | refine W_exit ?_ | refine W_ret ?_ | refine W_label ?_ | refine W_scope ?_ | refine W_block ?_ | refine W_seq ?_ | ((first | refine tS fun N hNx => ?_ | refine WL_gE rfl rfl (by kernel_rfl) (by kernel_rfl) fun G hGx => ?_ | refine vcOpsS_sound (by kernel_rfl) ?_ | refine W_ifE fun A B hAx hBx => ?_); refine evT ?_; (first | refine hGx _ ?_ | refine hNx _ ?_ | refine hAx ?_ | refine hBx ?_ | skip)))); (try clear fs))
  (first | (show Q .ret _) | (show Q .normal _) | skip); refine hret _ _ (by first | exact .inr rfl | exact .inl rfl) (by first | rfl | assumption | (simp only [put_df, withH_df]; assumption)) ?_; have fs := @i64.eq_1; refine evT ?_; clear fs
  (first | exact ⟨_, Heap.le_refl _, rfl⟩ | exact ⟨_, Heap.le_refl _, rfl, rfl⟩)
/-- The place of a string in a list. -/
def ixS (l : List ByteArray) (s : ByteArray) : Nat := l.findIdx fun x => decide (x = s)
theorem ixS_lt {l : List ByteArray} {s : ByteArray} : ixS l s < l.length ↔ s ∈ l := by
  unfold ixS
  rw [List.findIdx_lt_length]
  constructor
  · rintro ⟨x, hx, e⟩; rw [← of_decide_eq_true e]; exact hx
  · exact fun h => ⟨s, h, decide_eq_true rfl⟩
theorem ixS_eq {l : List ByteArray} {s : ByteArray} {i : Nat} (h : i < l.length) (he : l[i] = s) (hn : ∀ (k : Nat) (hk : k < l.length), k < i → l[k] ≠ s) : ixS l s = i := by
  unfold ixS
  rw [List.findIdx_eq h]
  exact ⟨decide_eq_true he, fun j hj => decide_eq_false (hn j (by omega) hj)⟩
/-- What Index returns. -/
def idxD (l : List ByteArray) (s : ByteArray) : D := .tup [i64 (if ixS l s < l.length then (ixS l s : Int) else 0), .val (.bool (decide (ixS l s < l.length)))]
set_option maxHeartbeats 1000000 in
theorem index_N (l : List ByteArray) (s : ByteArray) (H : Heap) (hl : l.length ≤ 140737488351232) (hs : l.Pairwise ltB) : Does Tryd.prog 14 [tabD l, strD s] H fun d H' => d = idxD l s ∧ H = H' := by
  have hml : (List.map sD l).length = l.length := List.length_map _
  refine does_of _ _ Tryd.func14 rfl rfl Tryd.ntmps14 Tryd.results14 (by simp only [List.length_cons, List.length_nil]; omega) fun w0 Q hret => ?_
  (have fs := And.intro @i64.eq_1 (And.intro @tabD.eq_1 @strD.eq_1); (repeat (first | refine hGx _ ?_ | refine hNx _ ?_ | refine W_skip ?_ | refine W_exit ?_ | refine W_ret ?_ | refine W_label ?_ | refine W_scope ?_ | refine W_block ?_ | refine W_seq ?_ | ((first | refine tS fun N hNx => ?_ | refine WL_gE rfl rfl (by kernel_rfl) (by kernel_rfl) fun G hGx => ?_ | refine vcOpsS_sound (by kernel_rfl) ?_ | refine W_ifE fun A B hAx hBx => ?_); refine evT ?_; (first | refine hGx _ ?_ | refine hNx _ ?_ | refine hAx ?_ | refine hBx ?_ | skip)))); (try clear fs))
  intro c3 hc3
  refine hNx _ ?_
  refine W_frzp 3 rfl (Heap.upd_same _ _ _) rfl ?_; simp only [St.frzp, put_H, wdf_H, withH_H, withH_put, wdf_withH, withH_withH, init_H, init_withH, Heap.del_upd_same, Heap.del_none hc3, withH_self]
  (have fs := @i64.eq_1; (repeat (first | refine hGx _ ?_ | refine hNx _ ?_ | refine W_skip ?_ | refine W_exit ?_ | refine W_ret ?_ | refine W_label ?_ | refine W_scope ?_ | refine W_block ?_ | refine W_seq ?_ | ((first | refine tS fun N hNx => ?_ | refine WL_gE rfl rfl (by kernel_rfl) (by kernel_rfl) fun G hGx => ?_ | refine vcOpsS_sound (by kernel_rfl) ?_ | refine W_ifE fun A B hAx hBx => ?_); refine evT ?_; (first | refine hGx _ ?_ | refine hNx _ ?_ | refine hAx ?_ | refine hBx ?_ | skip)))); (try clear fs))
  have hpw := List.pairwise_iff_getElem.1 hs
  refine (search_N l hl 30 [.rp [strD s]] (fun x => decide (ltB x s)) _ (fun x _ H => idx1_N x s H) (fun k m h1 h2 hkm hp => ?_)).mono ?_
  · by_cases e : k = m
    · subst e; exact hp
    · exact decide_eq_true (ltB_trans (hpw k m h1 h2 (by omega)) (of_decide_eq_true hp))
  rintro d _ ⟨⟨i, rfl, hi, ha, hb⟩, rfl⟩
  have hlt : ∀ (k : Nat) (hk : k < l.length), k < i → l[k] ≠ s := fun k hk hki e => ltB_irr s (by have := of_decide_eq_true (ha k hk hki); rwa [e] at this)
  by_cases hil : i < l.length
  case neg =>
    have p1 : ((i : Int) = (l.length : Int)) = True := eq_true (by omega)
    have hnm : ¬ ixS l s < l.length := fun h => by
      obtain ⟨k, hk, e⟩ := List.getElem_of_mem (ixS_lt.1 h)
      exact hlt k hk (by omega) e
    have hd : idxD l s = .tup [i64 0, .val (.bool false)] := by unfold idxD; rw [if_neg hnm, decide_eq_false hnm]
    (have fs := @i64.eq_1; (repeat (first | refine hGx _ ?_ | refine hNx _ ?_ | refine W_skip ?_ | refine W_exit ?_ | refine W_ret ?_ | refine W_label ?_ | refine W_scope ?_ | refine W_block ?_ | refine W_seq ?_ | ((first | refine tS fun N hNx => ?_ | refine WL_gE rfl rfl (by kernel_rfl) (by kernel_rfl) fun G hGx => ?_ | refine vcOpsS_sound (by kernel_rfl) ?_ | refine W_ifE fun A B hAx hBx => ?_); refine evT ?_; (first | refine hGx _ ?_ | refine hNx _ ?_ | refine hAx ?_ | refine hBx ?_ | skip)))); (try clear fs))
    refine W_drawE (fun _ _ _ _ => False) (by kernel_rfl) (by kernel_rfl) (by kernel_rfl) fun N hNx => ?_; (have fs := And.intro @i64.eq_1 (And.intro hml p1); (repeat ((first | refine vcD_g rfl rfl fun G hGx => ?_ | refine vcDS_to ?_); refine evD ?_; (first | refine hGx _ ?_ | refine hNx _ ?_ | skip))); (try clear fs))
    (first | refine hGx _ ?_ | refine hNx _ ?_ | skip)
    (have fs := @i64.eq_1; (repeat (first | refine hGx _ ?_ | refine hNx _ ?_ | refine W_skip ?_ | refine W_exit ?_ | refine W_ret ?_ | refine W_label ?_ | refine W_scope ?_ | refine W_block ?_ | refine W_seq ?_ | ((first | refine tS fun N hNx => ?_ | refine WL_gE rfl rfl (by kernel_rfl) (by kernel_rfl) fun G hGx => ?_ | refine vcOpsS_sound (by kernel_rfl) ?_ | refine W_ifE fun A B hAx hBx => ?_); refine evT ?_; (first | refine hGx _ ?_ | refine hNx _ ?_ | refine hAx ?_ | refine hBx ?_ | skip)))); (try clear fs))
    (first | (show Q .ret _) | (show Q .normal _) | skip); refine hret _ _ (by first | exact .inr rfl | exact .inl rfl) (by first | rfl | assumption | (simp only [put_df, withH_df]; assumption)) ?_; have fs := @i64.eq_1; refine evT ?_; clear fs
    exact ⟨_, Heap.le_refl _, hd.symm, rfl⟩
  have p1 : ((i : Int) = (l.length : Int)) = False := eq_false (by omega)
  have hgi := get_strs hil
  have hx : (i : Int).toNat = i := Int.toNat_natCast _
  have h00 : (0 : Int) ≤ (i : Int) := Int.natCast_nonneg _
  have hil' : (i : Int) < (l.length : Int) := by omega
  by_cases he : l[i] = s
  · have hix := ixS_eq hil he hlt
    have q1 : (l[i].toList = s.toList) = True := eq_true (by rw [he])
    have hd : idxD l s = .tup [i64 i, .val (.bool true)] := by unfold idxD; rw [hix, if_pos hil, decide_eq_true hil]
    (have fs := @i64.eq_1; (repeat (first | refine hGx _ ?_ | refine hNx _ ?_ | refine W_skip ?_ | refine W_exit ?_ | refine W_ret ?_ | refine W_label ?_ | refine W_scope ?_ | refine W_block ?_ | refine W_seq ?_ | ((first | refine tS fun N hNx => ?_ | refine WL_gE rfl rfl (by kernel_rfl) (by kernel_rfl) fun G hGx => ?_ | refine vcOpsS_sound (by kernel_rfl) ?_ | refine W_ifE fun A B hAx hBx => ?_); refine evT ?_; (first | refine hGx _ ?_ | refine hNx _ ?_ | refine hAx ?_ | refine hBx ?_ | skip)))); (try clear fs))
    refine W_drawE (fun _ _ _ _ => False) (by kernel_rfl) (by kernel_rfl) (by kernel_rfl) fun N hNx => ?_; (have fs := And.intro @i64.eq_1 (And.intro hml (And.intro p1 (And.intro hgi (And.intro hx (And.intro h00 (And.intro hil' q1)))))); (repeat ((first | refine vcD_g rfl rfl fun G hGx => ?_ | refine vcDS_to ?_); refine evD ?_; (first | refine hGx _ ?_ | refine hNx _ ?_ | skip))); (try clear fs))
    (first | refine hGx _ ?_ | refine hNx _ ?_ | skip)
    (have fs := @i64.eq_1; (repeat (first | refine hGx _ ?_ | refine hNx _ ?_ | refine W_skip ?_ | refine W_exit ?_ | refine W_ret ?_ | refine W_label ?_ | refine W_scope ?_ | refine W_block ?_ | refine W_seq ?_ | ((first | refine tS fun N hNx => ?_ | refine WL_gE rfl rfl (by kernel_rfl) (by kernel_rfl) fun G hGx => ?_ | refine vcOpsS_sound (by kernel_rfl) ?_ | refine W_ifE fun A B hAx hBx => ?_); refine evT ?_; (first | refine hGx _ ?_ | refine hNx _ ?_ | refine hAx ?_ | refine hBx ?_ | skip)))); (try clear fs))
    (first | (show Q .ret _) | (show Q .normal _) | skip); refine hret _ _ (by first | exact .inr rfl | exact .inl rfl) (by first | rfl | assumption | (simp only [put_df, withH_df]; assumption)) ?_; have fs := @i64.eq_1; refine evT ?_; clear fs
    exact ⟨_, Heap.le_refl _, hd.symm, rfl⟩
  · have hnm : ¬ ixS l s < l.length := fun h => by
      obtain ⟨k, hk, e⟩ := List.getElem_of_mem (ixS_lt.1 h)
      by_cases h1 : k < i
      · exact hlt k hk h1 e
      · by_cases h2 : k = i
        · subst h2; exact he e
        · have h3 := hpw i k hil hk (by omega)
          rw [e] at h3
          exact of_decide_eq_false (hb i hil (Nat.le_refl _)) h3
    have q1 : (l[i].toList = s.toList) = False := eq_false fun h => he (toL_inj.1 h)
    have hd : idxD l s = .tup [i64 0, .val (.bool false)] := by unfold idxD; rw [if_neg hnm, decide_eq_false hnm]
    (have fs := @i64.eq_1; (repeat (first | refine hGx _ ?_ | refine hNx _ ?_ | refine W_skip ?_ | refine W_exit ?_ | refine W_ret ?_ | refine W_label ?_ | refine W_scope ?_ | refine W_block ?_ | refine W_seq ?_ | ((first | refine tS fun N hNx => ?_ | refine WL_gE rfl rfl (by kernel_rfl) (by kernel_rfl) fun G hGx => ?_ | refine vcOpsS_sound (by kernel_rfl) ?_ | refine W_ifE fun A B hAx hBx => ?_); refine evT ?_; (first | refine hGx _ ?_ | refine hNx _ ?_ | refine hAx ?_ | refine hBx ?_ | skip)))); (try clear fs))
    refine W_drawE (fun _ _ _ _ => False) (by kernel_rfl) (by kernel_rfl) (by kernel_rfl) fun N hNx => ?_; (have fs := And.intro @i64.eq_1 (And.intro hml (And.intro p1 (And.intro hgi (And.intro hx (And.intro h00 (And.intro hil' q1)))))); (repeat ((first | refine vcD_g rfl rfl fun G hGx => ?_ | refine vcDS_to ?_); refine evD ?_; (first | refine hGx _ ?_ | refine hNx _ ?_ | skip))); (try clear fs))
    (first | refine hGx _ ?_ | refine hNx _ ?_ | skip)
    (have fs := @i64.eq_1; (repeat (first | refine hGx _ ?_ | refine hNx _ ?_ | refine W_skip ?_ | refine W_exit ?_ | refine W_ret ?_ | refine W_label ?_ | refine W_scope ?_ | refine W_block ?_ | refine W_seq ?_ | ((first | refine tS fun N hNx => ?_ | refine WL_gE rfl rfl (by kernel_rfl) (by kernel_rfl) fun G hGx => ?_ | refine vcOpsS_sound (by kernel_rfl) ?_ | refine W_ifE fun A B hAx hBx => ?_); refine evT ?_; (first | refine hGx _ ?_ | refine hNx _ ?_ | refine hAx ?_ | refine hBx ?_ | skip)))); (try clear fs))
    (first | (show Q .ret _) | (show Q .normal _) | skip); refine hret _ _ (by first | exact .inr rfl | exact .inl rfl) (by first | rfl | assumption | (simp only [put_df, withH_df]; assumption)) ?_; have fs := @i64.eq_1; refine evT ?_; clear fs
    exact ⟨_, Heap.le_refl _, hd.symm, rfl⟩
/-- A nil table. -/
theorem indexNil_N (s : ByteArray) (H : Heap) : Does Tryd.prog 14 [nilP, strD s] H fun d H' => d = .tup [i64 0, .val (.bool false)] ∧ H = H' := by
  refine does_of _ _ Tryd.func14 rfl rfl Tryd.ntmps14 Tryd.results14 (by simp only [List.length_cons, List.length_nil]; omega) fun w0 Q hret => ?_
  (have fs := And.intro @i64.eq_1 (And.intro @nilP.eq_1 @strD.eq_1); (repeat (first | refine hGx _ ?_ | refine hNx _ ?_ | refine W_skip ?_ | refine W_exit ?_ | refine W_ret ?_ | refine W_label ?_ | refine W_scope ?_ | refine W_block ?_ | refine W_seq ?_ | ((first | refine tS fun N hNx => ?_ | refine WL_gE rfl rfl (by kernel_rfl) (by kernel_rfl) fun G hGx => ?_ | refine vcOpsS_sound (by kernel_rfl) ?_ | refine W_ifE fun A B hAx hBx => ?_); refine evT ?_; (first | refine hGx _ ?_ | refine hNx _ ?_ | refine hAx ?_ | refine hBx ?_ | skip)))); (try clear fs))
  intro c3 hc3
  refine hNx _ ?_
  refine W_frzp 3 rfl (Heap.upd_same _ _ _) rfl ?_; simp only [St.frzp, put_H, wdf_H, withH_H, withH_put, wdf_withH, withH_withH, init_H, init_withH, Heap.del_upd_same, Heap.del_none hc3, withH_self]
  (have fs := @i64.eq_1; (repeat (first | refine hGx _ ?_ | refine hNx _ ?_ | refine W_skip ?_ | refine W_exit ?_ | refine W_ret ?_ | refine W_label ?_ | refine W_scope ?_ | refine W_block ?_ | refine W_seq ?_ | ((first | refine tS fun N hNx => ?_ | refine WL_gE rfl rfl (by kernel_rfl) (by kernel_rfl) fun G hGx => ?_ | refine vcOpsS_sound (by kernel_rfl) ?_ | refine W_ifE fun A B hAx hBx => ?_); refine evT ?_; (first | refine hGx _ ?_ | refine hNx _ ?_ | refine hAx ?_ | refine hBx ?_ | skip)))); (try clear fs))
  (first | (show Q .ret _) | (show Q .normal _) | skip); refine hret _ _ (by first | exact .inr rfl | exact .inl rfl) (by first | rfl | assumption | (simp only [put_df, withH_df]; assumption)) ?_; have fs := @i64.eq_1; refine evT ?_; clear fs
  (first | exact ⟨_, Heap.le_refl _, rfl⟩ | exact ⟨_, Heap.le_refl _, rfl, rfl⟩)
theorem len_N (l : List ByteArray) (H : Heap) : Does Tryd.prog 18 [tabD l] H fun d H' => d = i64 l.length ∧ H = H' := by
  have hml : (List.map sD l).length = l.length := List.length_map _
  refine does_of _ _ Tryd.func18 rfl rfl Tryd.ntmps18 Tryd.results18 (by simp only [List.length_cons, List.length_nil]; omega) fun w0 Q hret => ?_
  (have fs := And.intro @i64.eq_1 (And.intro @tabD.eq_1 hml); (repeat (first | refine hGx _ ?_ | refine hNx _ ?_ | refine W_skip ?_ | refine W_exit ?_ | refine W_ret ?_ | refine W_label ?_ | refine W_scope ?_ | refine W_block ?_ | refine W_seq ?_ | ((first | refine tS fun N hNx => ?_ | refine WL_gE rfl rfl (by kernel_rfl) (by kernel_rfl) fun G hGx => ?_ | refine vcOpsS_sound (by kernel_rfl) ?_ | refine W_ifE fun A B hAx hBx => ?_); refine evT ?_; (first | refine hGx _ ?_ | refine hNx _ ?_ | refine hAx ?_ | refine hBx ?_ | skip)))); (try clear fs))
  (first | (show Q .ret _) | (show Q .normal _) | skip); refine hret _ _ (by first | exact .inr rfl | exact .inl rfl) (by first | rfl | assumption | (simp only [put_df, withH_df]; assumption)) ?_; have fs := @i64.eq_1; refine evT ?_; clear fs
  (first | exact ⟨_, Heap.le_refl _, rfl⟩ | exact ⟨_, Heap.le_refl _, rfl, rfl⟩)
theorem lenNil_N (H : Heap) : Does Tryd.prog 18 [nilP] H fun d H' => d = i64 0 ∧ H = H' := by
  refine does_of _ _ Tryd.func18 rfl rfl Tryd.ntmps18 Tryd.results18 (by simp only [List.length_cons, List.length_nil]; omega) fun w0 Q hret => ?_
  (have fs := And.intro @i64.eq_1 @nilP.eq_1; (repeat (first | refine hGx _ ?_ | refine hNx _ ?_ | refine W_skip ?_ | refine W_exit ?_ | refine W_ret ?_ | refine W_label ?_ | refine W_scope ?_ | refine W_block ?_ | refine W_seq ?_ | ((first | refine tS fun N hNx => ?_ | refine WL_gE rfl rfl (by kernel_rfl) (by kernel_rfl) fun G hGx => ?_ | refine vcOpsS_sound (by kernel_rfl) ?_ | refine W_ifE fun A B hAx hBx => ?_); refine evT ?_; (first | refine hGx _ ?_ | refine hNx _ ?_ | refine hAx ?_ | refine hBx ?_ | skip)))); (try clear fs))
  (first | (show Q .ret _) | (show Q .normal _) | skip); refine hret _ _ (by first | exact .inr rfl | exact .inl rfl) (by first | rfl | assumption | (simp only [put_df, withH_df]; assumption)) ?_; have fs := @i64.eq_1; refine evT ?_; clear fs
  (first | exact ⟨_, Heap.le_refl _, rfl⟩ | exact ⟨_, Heap.le_refl _, rfl, rfl⟩)
/-- What At returns. -/
def atD (l : List ByteArray) (i : Int) : D := if InR l.length i then .tup [strD (l.getD i.toNat ByteArray.empty), .val (.bool true)] else .tup [strD ByteArray.empty, .val (.bool false)]
theorem at_N (l : List ByteArray) (i : Int) (H : Heap) : Does Tryd.prog 17 [tabD l, i64 i] H fun d H' => d = atD l i ∧ H = H' := by
  have hml : (List.map sD l).length = l.length := List.length_map _
  by_cases h0 : i < 0
  · have p1 : (i < 0) = True := eq_true h0
    have hd : atD l i = .tup [strD ByteArray.empty, .val (.bool false)] := if_neg fun h => by unfold InR at h; omega
    rw [hd]
    refine does_of _ _ Tryd.func17 rfl rfl Tryd.ntmps17 Tryd.results17 (by simp only [List.length_cons, List.length_nil]; omega) fun w0 Q hret => ?_
    (have fs := And.intro @i64.eq_1 (And.intro @tabD.eq_1 p1); (repeat (first | refine hGx _ ?_ | refine hNx _ ?_ | refine W_skip ?_ | refine W_exit ?_ | refine W_ret ?_ | refine W_label ?_ | refine W_scope ?_ | refine W_block ?_ | refine W_seq ?_ | ((first | refine tS fun N hNx => ?_ | refine WL_gE rfl rfl (by kernel_rfl) (by kernel_rfl) fun G hGx => ?_ | refine vcOpsS_sound (by kernel_rfl) ?_ | refine W_ifE fun A B hAx hBx => ?_); refine evT ?_; (first | refine hGx _ ?_ | refine hNx _ ?_ | refine hAx ?_ | refine hBx ?_ | skip)))); (try clear fs))
    (first | (show Q .ret _) | (show Q .normal _) | skip); refine hret _ _ (by first | exact .inr rfl | exact .inl rfl) (by first | rfl | assumption | (simp only [put_df, withH_df]; assumption)) ?_; have fs := @i64.eq_1; refine evT ?_; clear fs
    (first | exact ⟨_, Heap.le_refl _, rfl⟩ | exact ⟨_, Heap.le_refl _, rfl, rfl⟩)
  have p1 : (i < 0) = False := eq_false h0
  by_cases hi : i < l.length
  case neg =>
    have p2 : (i ≥ (l.length : Int)) = True := eq_true (by omega)
    have hd : atD l i = .tup [strD ByteArray.empty, .val (.bool false)] := if_neg fun h => by unfold InR at h; omega
    rw [hd]
    refine does_of _ _ Tryd.func17 rfl rfl Tryd.ntmps17 Tryd.results17 (by simp only [List.length_cons, List.length_nil]; omega) fun w0 Q hret => ?_
    (have fs := And.intro @i64.eq_1 (And.intro @tabD.eq_1 p1); (repeat (first | refine hGx _ ?_ | refine hNx _ ?_ | refine W_skip ?_ | refine W_exit ?_ | refine W_ret ?_ | refine W_label ?_ | refine W_scope ?_ | refine W_block ?_ | refine W_seq ?_ | ((first | refine tS fun N hNx => ?_ | refine WL_gE rfl rfl (by kernel_rfl) (by kernel_rfl) fun G hGx => ?_ | refine vcOpsS_sound (by kernel_rfl) ?_ | refine W_ifE fun A B hAx hBx => ?_); refine evT ?_; (first | refine hGx _ ?_ | refine hNx _ ?_ | refine hAx ?_ | refine hBx ?_ | skip)))); (try clear fs))
    refine (len_N l _).mono ?_
    rintro d _ ⟨rfl, rfl⟩
    (first | refine hGx _ ?_ | refine hNx _ ?_ | skip)
    (have fs := And.intro @i64.eq_1 p2; (repeat (first | refine hGx _ ?_ | refine hNx _ ?_ | refine W_skip ?_ | refine W_exit ?_ | refine W_ret ?_ | refine W_label ?_ | refine W_scope ?_ | refine W_block ?_ | refine W_seq ?_ | ((first | refine tS fun N hNx => ?_ | refine WL_gE rfl rfl (by kernel_rfl) (by kernel_rfl) fun G hGx => ?_ | refine vcOpsS_sound (by kernel_rfl) ?_ | refine W_ifE fun A B hAx hBx => ?_); refine evT ?_; (first | refine hGx _ ?_ | refine hNx _ ?_ | refine hAx ?_ | refine hBx ?_ | skip)))); (try clear fs))
    (first | (show Q .ret _) | (show Q .normal _) | skip); refine hret _ _ (by first | exact .inr rfl | exact .inl rfl) (by first | rfl | assumption | (simp only [put_df, withH_df]; assumption)) ?_; have fs := @i64.eq_1; refine evT ?_; clear fs
    (first | exact ⟨_, Heap.le_refl _, rfl⟩ | exact ⟨_, Heap.le_refl _, rfl, rfl⟩)
  have p2 : (i ≥ (l.length : Int)) = False := eq_false (by omega)
  have hil : i.toNat < l.length := by omega
  have hgi := get_strs hil
  have h00 : (0 : Int) ≤ i := by omega
  have hd : atD l i = .tup [strD l[i.toNat], .val (.bool true)] := by
    unfold atD
    rw [if_pos (by unfold InR; omega), List.getD_eq_getElem?_getD, List.getElem?_eq_getElem hil]; rfl
  rw [hd]
  refine does_of _ _ Tryd.func17 rfl rfl Tryd.ntmps17 Tryd.results17 (by simp only [List.length_cons, List.length_nil]; omega) fun w0 Q hret => ?_
  (have fs := And.intro @i64.eq_1 (And.intro @tabD.eq_1 p1); (repeat (first | refine hGx _ ?_ | refine hNx _ ?_ | refine W_skip ?_ | refine W_exit ?_ | refine W_ret ?_ | refine W_label ?_ | refine W_scope ?_ | refine W_block ?_ | refine W_seq ?_ | ((first | refine tS fun N hNx => ?_ | refine WL_gE rfl rfl (by kernel_rfl) (by kernel_rfl) fun G hGx => ?_ | refine vcOpsS_sound (by kernel_rfl) ?_ | refine W_ifE fun A B hAx hBx => ?_); refine evT ?_; (first | refine hGx _ ?_ | refine hNx _ ?_ | refine hAx ?_ | refine hBx ?_ | skip)))); (try clear fs))
  refine (len_N l _).mono ?_
  rintro d _ ⟨rfl, rfl⟩
  (first | refine hGx _ ?_ | refine hNx _ ?_ | skip)
  (have fs := And.intro @i64.eq_1 (And.intro p2 (And.intro @tabD.eq_1 (And.intro hml (And.intro hgi (And.intro h00 hi))))); (repeat (first | refine hGx _ ?_ | refine hNx _ ?_ | refine W_skip ?_ | refine W_exit ?_ | refine W_ret ?_ | refine W_label ?_ | refine W_scope ?_ | refine W_block ?_ | refine W_seq ?_ | ((first | refine tS fun N hNx => ?_ | refine WL_gE rfl rfl (by kernel_rfl) (by kernel_rfl) fun G hGx => ?_ | refine vcOpsS_sound (by kernel_rfl) ?_ | refine W_ifE fun A B hAx hBx => ?_); refine evT ?_; (first | refine hGx _ ?_ | refine hNx _ ?_ | refine hAx ?_ | refine hBx ?_ | skip)))); (try clear fs))
  (first | (show Q .ret _) | (show Q .normal _) | skip); refine hret _ _ (by first | exact .inr rfl | exact .inl rfl) (by first | rfl | assumption | (simp only [put_df, withH_df]; assumption)) ?_; have fs := @i64.eq_1; refine evT ?_; clear fs
  (first | exact ⟨_, Heap.le_refl _, rfl⟩ | exact ⟨_, Heap.le_refl _, rfl, rfl⟩)
/-- The encoding of a string, of strings, of a table. -/
def encS1 (s : ByteArray) : List UInt8 := put s.size ++ s.data.toList
def encT (l : List ByteArray) : List UInt8 := put l.length ++ l.flatMap encS1
theorem encT_ne (l : List ByteArray) (h : l.length ≤ 1000000) : encT l ≠ [] := fun e => by
  have hp := put_length l.length (by omega)
  have hle : (put l.length).length ≤ (encT l).length := by unfold encT; rw [List.length_append]; omega
  rw [e, List.length_nil] at hle
  omega
def bsum : List ByteArray → Nat
  | [] => 0
  | s :: l => s.size + 10 + bsum l
theorem bsum_append : ∀ l m : List ByteArray, bsum (l ++ m) = bsum l + bsum m
  | [], m => by simp [bsum]
  | s :: l, m => by simp only [List.cons_append, bsum, bsum_append l m]; omega
theorem bsum_take (l : List ByteArray) (i : Nat) : bsum (l.take i) ≤ bsum l := by
  have := bsum_append (l.take i) (l.drop i)
  rw [List.take_append_drop] at this; omega
theorem bsum_mem : ∀ {l : List ByteArray} {s : ByteArray}, s ∈ l → s.size ≤ bsum l
  | x :: l, s, h => by
    rcases List.mem_cons.1 h with rfl | h
    · simp only [bsum]; omega
    · have := bsum_mem h; simp only [bsum]; omega
theorem encS1_len (s : ByteArray) (h : s.size ≤ 1000000000) : (encS1 s).length ≤ s.size + 10 := by
  have hp := put_length s.size (by omega)
  unfold encS1
  rw [List.length_append]
  have : s.data.toList.length = s.size := Array.length_toList
  omega
theorem flat_len : ∀ l : List ByteArray, bsum l ≤ 1000000000 → (l.flatMap encS1).length ≤ bsum l
  | [], _ => Nat.zero_le _
  | s :: l, h => by
    simp only [bsum] at h ⊢
    have h1 := flat_len l (by omega)
    have h2 := encS1_len s (by omega)
    rw [List.flatMap_cons, List.length_append]; omega
def EncR (l : List ByteArray) (H : Heap) (d : D) (H' : Heap) : Prop := ∃ c o, H c = none ∧ d = .os c o 1 0 (encT l).length ∧ H' = H.upd c (bufH o (encT l))
set_option maxHeartbeats 1000000 in
theorem encode_N (l : List ByteArray) (H : Heap) (hl : l.length ≤ 1000000) (hb : bsum l ≤ 1000000000) : Does Tryd.prog 20 [tabD l] H (EncR l H) := by
  have hml : (List.map sD l).length = l.length := List.length_map _
  have hw : IntKind.u64.wrap ((l.length : Nat) : Int) = (l.length : Int) := by rw [IntKind.wrap_u64]; omega
  have hpl := put_length l.length (by omega)
  refine does_of _ _ Tryd.func20 rfl rfl Tryd.ntmps20 Tryd.results20 (by simp only [List.length_cons, List.length_nil]; omega) fun w0 Q hret => ?_
  (have fs := And.intro @i64.eq_1 @tabD.eq_1; (repeat (first | refine hGx _ ?_ | refine hNx _ ?_ | refine W_skip ?_ | refine W_exit ?_ | refine W_ret ?_ | refine W_label ?_ | refine W_scope ?_ | refine W_block ?_ | refine W_seq ?_ | ((first | refine tS fun N hNx => ?_ | refine WL_gE rfl rfl (by kernel_rfl) (by kernel_rfl) fun G hGx => ?_ | refine vcOpsS_sound (by kernel_rfl) ?_ | refine W_ifE fun A B hAx hBx => ?_); refine evT ?_; (first | refine hGx _ ?_ | refine hNx _ ?_ | refine hAx ?_ | refine hBx ?_ | skip)))); (try clear fs))
  refine (newWriter_N _).mono ?_
  rintro d H1 ⟨b, hbn, rfl, rfl⟩
  (have fs := And.intro @i64.eq_1 (And.intro @tabD.eq_1 (And.intro hml hw)); (repeat (first | refine hGx _ ?_ | refine hNx _ ?_ | refine W_skip ?_ | refine W_exit ?_ | refine W_ret ?_ | refine W_label ?_ | refine W_scope ?_ | refine W_block ?_ | refine W_seq ?_ | ((first | refine tS fun N hNx => ?_ | refine WL_gE rfl rfl (by kernel_rfl) (by kernel_rfl) fun G hGx => ?_ | refine vcOpsS_sound (by kernel_rfl) ?_ | refine W_ifE fun A B hAx hBx => ?_); refine evT ?_; (first | refine hGx _ ?_ | refine hNx _ ?_ | refine hAx ?_ | refine hBx ?_ | skip)))); (try clear fs))
  refine (wuint_W l.length (by omega) (buf := none) (l := []) ⟨rfl, Heap.upd_same _ _ _⟩ (by simp)).mono ?_
  rintro d H2 ⟨buf2, hw2, hk2⟩
  rw [List.nil_append] at hw2
  have hkeep2 : ∀ x y, H x = some y → x ≠ b ∧ H2 x = some y ∧ bufNot buf2 x := fun x y hx => by
    have hne : x ≠ b := fun e => by rw [e, hbn] at hx; cases hx
    obtain ⟨h1, h2⟩ := hk2 x y (by rw [Heap.upd_ne hne]; exact hx) hne (by intro p hp; cases hp)
    exact ⟨hne, h1, h2⟩
  (have fs := And.intro @i64.eq_1 (And.intro @tabD.eq_1 hml); (repeat (first | refine hGx _ ?_ | refine hNx _ ?_ | refine W_skip ?_ | refine W_exit ?_ | refine W_ret ?_ | refine W_label ?_ | refine W_scope ?_ | refine W_block ?_ | refine W_seq ?_ | ((first | refine tS fun N hNx => ?_ | refine WL_gE rfl rfl (by kernel_rfl) (by kernel_rfl) fun G hGx => ?_ | refine vcOpsS_sound (by kernel_rfl) ?_ | refine W_ifE fun A B hAx hBx => ?_); refine evT ?_; (first | refine hGx _ ?_ | refine hNx _ ?_ | refine hAx ?_ | refine hBx ?_ | skip)))); (try clear fs))
  refine W_loopN l.length (fun i s => s.df = [] ∧ s.fr 3 = .ep b 0 1 0 0 ∧ s.fr 20 = .seq 1 (l.map sD) ∧ s.fr 21 = i64 l.length ∧ s.fr 22 = i64 i ∧ ∃ buf, Wr b buf (put l.length ++ (l.take i).flatMap encS1) s.H ∧ ∀ x y, H x = some y → x ≠ b ∧ s.H x = some y ∧ bufNot buf x) ⟨rfl, rfl, rfl, rfl, rfl, buf2, by rw [List.take_zero, List.flatMap_nil, List.append_nil]; exact hw2, hkeep2⟩ ?_
  rintro i s hi ⟨hdf, f3, f20, f21, f22, buf, hW, hkeep⟩
  have hx : (i : Int).toNat = i := Int.toNat_natCast _
  have h00 : (0 : Int) ≤ (i : Int) := Int.natCast_nonneg _
  have hbt := bsum_take l i
  have hfl := flat_len (l.take i) (by omega)
  by_cases hil : i < l.length
  case neg =>
    have p1 : ((i : Int) < (l.length : Int)) = False := eq_false (by omega)
    rw [List.take_of_length_le (by omega)] at hW
    (have fs := And.intro f3 (And.intro f20 (And.intro f21 (And.intro f22 (And.intro @i64.eq_1 p1)))); (repeat (first | refine hGx _ ?_ | refine hNx _ ?_ | refine W_skip ?_ | refine W_exit ?_ | refine W_ret ?_ | refine W_label ?_ | refine W_scope ?_ | refine W_block ?_ | refine W_seq ?_ | ((first | refine tS fun N hNx => ?_ | refine WL_gE rfl rfl (by kernel_rfl) (by kernel_rfl) fun G hGx => ?_ | refine vcOpsS_sound (by kernel_rfl) ?_ | refine W_ifE fun A B hAx hBx => ?_); refine evT ?_; (first | refine hGx _ ?_ | refine hNx _ ?_ | refine hAx ?_ | refine hBx ?_ | skip)))); (try clear fs))
    refine (wbytes_W (l := encT l) hW (by unfold encT; rw [List.length_append]; rw [List.take_of_length_le (by omega)] at hfl; omega)).mono ?_
    rintro d H3 hr
    (have fs := And.intro f3 @i64.eq_1; (repeat (first | refine hGx _ ?_ | refine hNx _ ?_ | refine W_skip ?_ | refine W_exit ?_ | refine W_ret ?_ | refine W_label ?_ | refine W_scope ?_ | refine W_block ?_ | refine W_seq ?_ | ((first | refine tS fun N hNx => ?_ | refine WL_gE rfl rfl (by kernel_rfl) (by kernel_rfl) fun G hGx => ?_ | refine vcOpsS_sound (by kernel_rfl) ?_ | refine W_ifE fun A B hAx hBx => ?_); refine evT ?_; (first | refine hGx _ ?_ | refine hNx _ ?_ | refine hAx ?_ | refine hBx ?_ | skip)))); (try clear fs))
    (first | (show Q .ret _) | (show Q .normal _) | skip); refine hret _ _ (by first | exact .inr rfl | exact .inl rfl) (by first | rfl | assumption | (simp only [put_df, withH_df]; assumption)) ?_; have fs := hdf; refine evT ?_; clear fs
    rcases hr with ⟨_, h0, _⟩ | ⟨c, o, hc, rfl, rfl⟩
    · exact absurd h0 (encT_ne l hl)
    · have hc0 : H c = none := by
        cases e : H c with
        | none => rfl
        | some y => rw [(hkeep c y e).2.1] at hc; cases hc
      refine ⟨H.upd c (bufH o (encT l)), fun x y hx => ?_, c, o, hc0, rfl, rfl⟩
      by_cases e : x = c
      · rw [e, Heap.upd_same] at hx; rw [e, Heap.upd_same]; exact hx
      · rw [Heap.upd_ne e] at hx ⊢; exact (hkeep x y hx).2.1
  have hil' : (i : Int) < (l.length : Int) := by omega
  have p1 : ((i : Int) < (l.length : Int)) = True := eq_true hil'
  have hgi := get_strs hil
  have w3 : IntKind.i64.wrap ((i : Int) + 1) = ((i + 1 : Nat) : Int) := by rw [wrap_i64_of (by omega)]; omega
  obtain ⟨t, ht, htl⟩ := bstr_of' l[i]
  have hbm := bsum_mem (List.getElem_mem hil)
  rw [ht] at hgi
  (have fs := And.intro f3 (And.intro f20 (And.intro f21 (And.intro f22 (And.intro @i64.eq_1 (And.intro p1 (And.intro hml (And.intro hgi (And.intro hx (And.intro h00 hil))))))))); (repeat (first | refine hGx _ ?_ | refine hNx _ ?_ | refine W_skip ?_ | refine W_exit ?_ | refine W_ret ?_ | refine W_label ?_ | refine W_scope ?_ | refine W_block ?_ | refine W_seq ?_ | ((first | refine tS fun N hNx => ?_ | refine WL_gE rfl rfl (by kernel_rfl) (by kernel_rfl) fun G hGx => ?_ | refine vcOpsS_sound (by kernel_rfl) ?_ | refine W_ifE fun A B hAx hBx => ?_); refine evT ?_; (first | refine hGx _ ?_ | refine hNx _ ?_ | refine hAx ?_ | refine hBx ?_ | skip)))); (try clear fs))
  refine (wstr_W t (by omega) hW (by rw [List.length_append]; omega)).mono ?_
  rintro d H3 ⟨buf3, hW3, hk3⟩
  (have fs := And.intro f3 (And.intro f20 (And.intro f21 (And.intro f22 (And.intro @i64.eq_1 w3)))); (repeat (first | refine hGx _ ?_ | refine hNx _ ?_ | refine W_skip ?_ | refine W_exit ?_ | refine W_ret ?_ | refine W_label ?_ | refine W_scope ?_ | refine W_block ?_ | refine W_seq ?_ | ((first | refine tS fun N hNx => ?_ | refine WL_gE rfl rfl (by kernel_rfl) (by kernel_rfl) fun G hGx => ?_ | refine vcOpsS_sound (by kernel_rfl) ?_ | refine W_ifE fun A B hAx hBx => ?_); refine evT ?_; (first | refine hGx _ ?_ | refine hNx _ ?_ | refine hAx ?_ | refine hBx ?_ | skip)))); (try clear fs))
  refine ⟨hil, hdf, f3, f20, f21, rfl, buf3, ?_, fun x y hx => ?_⟩
  · have e : put t.length ++ t = encS1 l[i] := by unfold encS1; rw [ht, bstr_toList, bstr_size]
    rw [e, List.append_assoc, ← List.flatMap_singleton encS1 l[i], ← List.flatMap_append, ← List.take_succ_eq_append_getElem hil] at hW3
    exact hW3
  · obtain ⟨g1, g2, g3⟩ := hkeep x y hx
    exact ⟨g1, hk3 x y g2 g1 g3⟩
end Go.Proofs.YtiakpcnglihnbaaDoor
