/- Lemmas and contracts of functions, several texts in one: I7. -/
import Derived.Test.YtiakpcnglihnbaaDoorGIC
import Derived.Test.YtiakpcnglihnbaaDoorGC
import Derived.Test.YtiakpcnglihnbaaDoorGD
import Derived.Test.YtiakpcnglihnbaaDoorGI
/- The chapter's example; the law InternIdents. -/
namespace Go.Proofs.YtiakpcnglihnbaaDoor
open Go.RowKit
set_option linter.unusedVariables false
set_option maxRecDepth 100000
set_option linter.unusedSimpArgs false
theorem eqb_N (l m : List UInt8) (H : Heap) : Does Tryd.prog 22 [.seq 1 (l.map bD), .seq 1 (m.map bD)] H fun d H' => d = .val (.bool (decide (l = m))) ∧ H = H' := pure_D (equal_N l m) rfl (vws2 (vw_refl _ _) (vw_refl _ _))
theorem encode_S (l : List ByteArray) (H : Heap) (hl : l.length ≤ 1000000) (hb : bsum l ≤ 1000000000) : Does Tryd.prog 20 [tabD l] H fun d H' => d = .seq 1 ((encT l).map bD) ∧ H = H' :=
  (encode_N l H hl hb).seqOut fun d H' ⟨c, o, h1, h2, h3⟩ => .inr (.inl ⟨c, o, _, h1, by rw [List.length_map]; exact h2, h3⟩)
def aS5 : ByteArray := bstr [97]
def bS5 : ByteArray := bstr [98]
theorem ins5 : insAll [bS5, aS5, bS5] = [aS5, bS5] := strictB_eq (insAll_strict _) (by
    have h : ltB aS5 bS5 := by unfold ltB aS5 bS5; rw [bstr_toL, bstr_toL]; decide
    simp [h]) fun x => by
  rw [insAll_mem]
  simp only [List.mem_cons, List.not_mem_nil, or_false]
  constructor
  · rintro (h | h | h)
    · exact .inr h
    · exact .inl h
    · exact .inr h
  · rintro (h | h)
    · exact .inr (.inl h)
    · exact .inl h
theorem new5a : newD [bS5, aS5, bS5] = .tup [tabD [aS5, bS5], i64 0] := by
  unfold newD
  rw [if_pos, ins5]
  intro s hs
  simp only [List.mem_cons, List.not_mem_nil, or_false] at hs
  rcases hs with rfl | rfl | rfl <;> (unfold isId; first | (unfold aS5; rw [bstr_toList]; decide) | (unfold bS5; rw [bstr_toList]; decide))
theorem new5b : newD [bstr [49, 97]] = .tup [nilP, i64 12] := by
  unfold newD
  rw [if_neg]
  intro h
  have := h _ (List.mem_singleton.2 rfl)
  unfold isId at this
  rw [bstr_toList] at this
  revert this
  decide
theorem enc5 : encT [aS5, bS5] = [2, 1, 97, 1, 98] := by
  unfold encT encS1 aS5 bS5
  simp only [List.flatMap_cons, List.flatMap_nil, bstr_toList, bstr_size]
  decide
set_option maxHeartbeats 1000000 in
theorem alive5_N (H : Heap) : Does Tryd.prog 8 [] H fun d H' => d = .val (.bool true) ∧ H = H' := by
  have hid1 : isId (bstr [97, 49]) = true := by unfold isId; rw [bstr_toList]; decide
  have hid2 : isId (bstr [95]) = true := by unfold isId; rw [bstr_toList]; decide
  have hid3 : isId (bstr []) = false := by unfold isId; rw [bstr_toList]; decide
  have hsz : ∀ l : List UInt8, l.length ≤ 9 → big (bstr l).size := fun l h => by unfold big; rw [bstr_size]; omega
  refine does_of _ _ Tryd.func8 rfl rfl Tryd.ntmps8 Tryd.results8 (by simp only [List.length_cons, List.length_nil]; omega) fun w0 Q hret => ?_
  (have fs := @i64.eq_1; (repeat (first | refine hGx _ ?_ | refine hNx _ ?_ | refine W_skip ?_ | refine W_exit ?_ | refine W_ret ?_ | refine W_label ?_ | refine W_scope ?_ | refine W_block ?_ | refine W_seq ?_ | ((first | refine tS fun N hNx => ?_ | refine WL_gE rfl rfl (by kernel_rfl) (by kernel_rfl) fun G hGx => ?_ | refine vcOpsS_sound (by kernel_rfl) ?_ | refine W_ifE fun A B hAx hBx => ?_); refine evT ?_; (first | refine hGx _ ?_ | refine hNx _ ?_ | refine hAx ?_ | refine hBx ?_ | skip)))); (try clear fs))
  refine (new_N [bS5, aS5, bS5] _ (by decide) (fun s hs => ?_)).mono ?_
  · simp only [List.mem_cons, List.not_mem_nil, or_false] at hs
    rcases hs with rfl | rfl | rfl <;> exact hsz _ (by decide)
  rintro d _ ⟨rfl, rfl⟩
  rw [new5a]
  (have fs := @i64.eq_1; (repeat (first | refine hGx _ ?_ | refine hNx _ ?_ | refine W_skip ?_ | refine W_exit ?_ | refine W_ret ?_ | refine W_label ?_ | refine W_scope ?_ | refine W_block ?_ | refine W_seq ?_ | ((first | refine tS fun N hNx => ?_ | refine WL_gE rfl rfl (by kernel_rfl) (by kernel_rfl) fun G hGx => ?_ | refine vcOpsS_sound (by kernel_rfl) ?_ | refine W_ifE fun A B hAx hBx => ?_); refine evT ?_; (first | refine hGx _ ?_ | refine hNx _ ?_ | refine hAx ?_ | refine hBx ?_ | skip)))); (try clear fs))
  refine (new_N [bstr [49, 97]] _ (by decide) (fun s hs => ?_)).mono ?_
  · rw [List.mem_singleton.1 hs]; exact hsz _ (by decide)
  rintro d _ ⟨rfl, rfl⟩
  rw [new5b]
  (have fs := And.intro @i64.eq_1 (And.intro @tabD.eq_1 @nilP.eq_1); (repeat (first | refine hGx _ ?_ | refine hNx _ ?_ | refine W_skip ?_ | refine W_exit ?_ | refine W_ret ?_ | refine W_label ?_ | refine W_scope ?_ | refine W_block ?_ | refine W_seq ?_ | ((first | refine tS fun N hNx => ?_ | refine WL_gE rfl rfl (by kernel_rfl) (by kernel_rfl) fun G hGx => ?_ | refine vcOpsS_sound (by kernel_rfl) ?_ | refine W_ifE fun A B hAx hBx => ?_); refine evT ?_; (first | refine hGx _ ?_ | refine hNx _ ?_ | refine hAx ?_ | refine hBx ?_ | skip)))); (try clear fs))
  refine (len_N [aS5, bS5] _).mono ?_
  rintro d _ ⟨rfl, rfl⟩
  (first | refine hGx _ ?_ | refine hNx _ ?_ | skip)
  (have fs := @i64.eq_1; (repeat (first | refine hGx _ ?_ | refine hNx _ ?_ | refine W_skip ?_ | refine W_exit ?_ | refine W_ret ?_ | refine W_label ?_ | refine W_scope ?_ | refine W_block ?_ | refine W_seq ?_ | ((first | refine tS fun N hNx => ?_ | refine WL_gE rfl rfl (by kernel_rfl) (by kernel_rfl) fun G hGx => ?_ | refine vcOpsS_sound (by kernel_rfl) ?_ | refine W_ifE fun A B hAx hBx => ?_); refine evT ?_; (first | refine hGx _ ?_ | refine hNx _ ?_ | refine hAx ?_ | refine hBx ?_ | skip)))); (try clear fs))
  refine (encode_S [aS5, bS5] _ (by decide) (by unfold bsum bsum bsum aS5 bS5; simp only [bstr_size]; decide)).mono ?_
  rintro d _ ⟨rfl, rfl⟩
  rw [enc5]
  (first | refine hGx _ ?_ | refine hNx _ ?_ | skip)
  (have fs := @i64.eq_1; (repeat (first | refine hGx _ ?_ | refine hNx _ ?_ | refine W_skip ?_ | refine W_exit ?_ | refine W_ret ?_ | refine W_label ?_ | refine W_scope ?_ | refine W_block ?_ | refine W_seq ?_ | ((first | refine tS fun N hNx => ?_ | refine WL_gE rfl rfl (by kernel_rfl) (by kernel_rfl) fun G hGx => ?_ | refine vcOpsS_sound (by kernel_rfl) ?_ | refine W_ifE fun A B hAx hBx => ?_); refine evT ?_; (first | refine hGx _ ?_ | refine hNx _ ?_ | refine hAx ?_ | refine hBx ?_ | skip)))); (try clear fs))
  refine (eqb_N [2, 1, 97, 1, 98] [2, 1, 97, 1, 98] _).mono ?_
  rintro d _ ⟨rfl, rfl⟩
  rw [decide_eq_true rfl]
  (first | refine hGx _ ?_ | refine hNx _ ?_ | skip)
  (have fs := @i64.eq_1; (repeat (first | refine hGx _ ?_ | refine hNx _ ?_ | refine W_skip ?_ | refine W_exit ?_ | refine W_ret ?_ | refine W_label ?_ | refine W_scope ?_ | refine W_block ?_ | refine W_seq ?_ | ((first | refine tS fun N hNx => ?_ | refine WL_gE rfl rfl (by kernel_rfl) (by kernel_rfl) fun G hGx => ?_ | refine vcOpsS_sound (by kernel_rfl) ?_ | refine W_ifE fun A B hAx hBx => ?_); refine evT ?_; (first | refine hGx _ ?_ | refine hNx _ ?_ | refine hAx ?_ | refine hBx ?_ | skip)))); (try clear fs))
  refine (isid_N (bstr [97, 49]) _ (hsz _ (by decide))).mono ?_
  rintro d _ ⟨rfl, rfl⟩
  rw [hid1]
  (first | refine hGx _ ?_ | refine hNx _ ?_ | skip)
  (have fs := @i64.eq_1; (repeat (first | refine hGx _ ?_ | refine hNx _ ?_ | refine W_skip ?_ | refine W_exit ?_ | refine W_ret ?_ | refine W_label ?_ | refine W_scope ?_ | refine W_block ?_ | refine W_seq ?_ | ((first | refine tS fun N hNx => ?_ | refine WL_gE rfl rfl (by kernel_rfl) (by kernel_rfl) fun G hGx => ?_ | refine vcOpsS_sound (by kernel_rfl) ?_ | refine W_ifE fun A B hAx hBx => ?_); refine evT ?_; (first | refine hGx _ ?_ | refine hNx _ ?_ | refine hAx ?_ | refine hBx ?_ | skip)))); (try clear fs))
  refine (isid_N (bstr [95]) _ (hsz _ (by decide))).mono ?_
  rintro d _ ⟨rfl, rfl⟩
  rw [hid2]
  (first | refine hGx _ ?_ | refine hNx _ ?_ | skip)
  (have fs := @i64.eq_1; (repeat (first | refine hGx _ ?_ | refine hNx _ ?_ | refine W_skip ?_ | refine W_exit ?_ | refine W_ret ?_ | refine W_label ?_ | refine W_scope ?_ | refine W_block ?_ | refine W_seq ?_ | ((first | refine tS fun N hNx => ?_ | refine WL_gE rfl rfl (by kernel_rfl) (by kernel_rfl) fun G hGx => ?_ | refine vcOpsS_sound (by kernel_rfl) ?_ | refine W_ifE fun A B hAx hBx => ?_); refine evT ?_; (first | refine hGx _ ?_ | refine hNx _ ?_ | refine hAx ?_ | refine hBx ?_ | skip)))); (try clear fs))
  refine (isid_N (bstr []) _ (hsz _ (by decide))).mono ?_
  rintro d _ ⟨rfl, rfl⟩
  rw [hid3]
  (first | refine hGx _ ?_ | refine hNx _ ?_ | skip)
  (have fs := @i64.eq_1; (repeat (first | refine hGx _ ?_ | refine hNx _ ?_ | refine W_skip ?_ | refine W_exit ?_ | refine W_ret ?_ | refine W_label ?_ | refine W_scope ?_ | refine W_block ?_ | refine W_seq ?_ | ((first | refine tS fun N hNx => ?_ | refine WL_gE rfl rfl (by kernel_rfl) (by kernel_rfl) fun G hGx => ?_ | refine vcOpsS_sound (by kernel_rfl) ?_ | refine W_ifE fun A B hAx hBx => ?_); refine evT ?_; (first | refine hGx _ ?_ | refine hNx _ ?_ | refine hAx ?_ | refine hBx ?_ | skip)))); (try clear fs))
  (first | (show Q .ret _) | (show Q .normal _) | skip); refine hret _ _ (by first | exact .inr rfl | exact .inl rfl) (by first | rfl | assumption | (simp only [put_df, withH_df]; assumption)) ?_; have fs := @i64.eq_1; refine evT ?_; clear fs
  (first | exact ⟨_, Heap.le_refl _, rfl⟩ | exact ⟨_, Heap.le_refl _, rfl, rfl⟩)
/-- The law InternIdents. -/
theorem lidents_N (s : ByteArray) (hs : big s.size) : Does Tryd.prog 3 [strD s] .none fun d _ => d = .val (.bool true) := by
  by_cases h5 : 5000 < s.size
  · have p1 : ((s.size : Int) > 5000) = True := eq_true (by omega)
    refine does_of _ _ Tryd.func3 rfl rfl Tryd.ntmps3 Tryd.results3 (by simp only [List.length_cons, List.length_nil]; omega) fun w0 Q hret => ?_
    (have fs := And.intro @i64.eq_1 (And.intro @strD.eq_1 p1); (repeat (first | refine hGx _ ?_ | refine hNx _ ?_ | refine W_skip ?_ | refine W_exit ?_ | refine W_ret ?_ | refine W_label ?_ | refine W_scope ?_ | refine W_block ?_ | refine W_seq ?_ | ((first | refine tS fun N hNx => ?_ | refine WL_gE rfl rfl (by kernel_rfl) (by kernel_rfl) fun G hGx => ?_ | refine vcOpsS_sound (by kernel_rfl) ?_ | refine W_ifE fun A B hAx hBx => ?_); refine evT ?_; (first | refine hGx _ ?_ | refine hNx _ ?_ | refine hAx ?_ | refine hBx ?_ | skip)))); (try clear fs))
    refine (alive5_N _).mono ?_
    rintro d _ ⟨rfl, rfl⟩
    (have fs := @i64.eq_1; (repeat (first | refine hGx _ ?_ | refine hNx _ ?_ | refine W_skip ?_ | refine W_exit ?_ | refine W_ret ?_ | refine W_label ?_ | refine W_scope ?_ | refine W_block ?_ | refine W_seq ?_ | ((first | refine tS fun N hNx => ?_ | refine WL_gE rfl rfl (by kernel_rfl) (by kernel_rfl) fun G hGx => ?_ | refine vcOpsS_sound (by kernel_rfl) ?_ | refine W_ifE fun A B hAx hBx => ?_); refine evT ?_; (first | refine hGx _ ?_ | refine hNx _ ?_ | refine hAx ?_ | refine hBx ?_ | skip)))); (try clear fs))
    (first | (show Q .ret _) | (show Q .normal _) | skip); refine hret _ _ (by first | exact .inr rfl | exact .inl rfl) (by first | rfl | assumption | (simp only [put_df, withH_df]; assumption)) ?_; have fs := @i64.eq_1; refine evT ?_; clear fs
    exact ⟨_, Heap.le_refl _⟩
  have p1 : ((s.size : Int) > 5000) = False := eq_false (by omega)
  refine does_of _ _ Tryd.func3 rfl rfl Tryd.ntmps3 Tryd.results3 (by simp only [List.length_cons, List.length_nil]; omega) fun w0 Q hret => ?_
  (have fs := And.intro @i64.eq_1 (And.intro @strD.eq_1 p1); (repeat (first | refine hGx _ ?_ | refine hNx _ ?_ | refine W_skip ?_ | refine W_exit ?_ | refine W_ret ?_ | refine W_label ?_ | refine W_scope ?_ | refine W_block ?_ | refine W_seq ?_ | ((first | refine tS fun N hNx => ?_ | refine WL_gE rfl rfl (by kernel_rfl) (by kernel_rfl) fun G hGx => ?_ | refine vcOpsS_sound (by kernel_rfl) ?_ | refine W_ifE fun A B hAx hBx => ?_); refine evT ?_; (first | refine hGx _ ?_ | refine hNx _ ?_ | refine hAx ?_ | refine hBx ?_ | skip)))); (try clear fs))
  refine (alive5_N _).mono ?_
  rintro d _ ⟨rfl, rfl⟩
  (first | refine hGx _ ?_ | refine hNx _ ?_ | skip)
  (have fs := @i64.eq_1; (repeat (first | refine hGx _ ?_ | refine hNx _ ?_ | refine W_skip ?_ | refine W_exit ?_ | refine W_ret ?_ | refine W_label ?_ | refine W_scope ?_ | refine W_block ?_ | refine W_seq ?_ | ((first | refine tS fun N hNx => ?_ | refine WL_gE rfl rfl (by kernel_rfl) (by kernel_rfl) fun G hGx => ?_ | refine vcOpsS_sound (by kernel_rfl) ?_ | refine W_ifE fun A B hAx hBx => ?_); refine evT ?_; (first | refine hGx _ ?_ | refine hNx _ ?_ | refine hAx ?_ | refine hBx ?_ | skip)))); (try clear fs))
  refine (isid_N s _ hs).mono ?_
  rintro d _ ⟨rfl, rfl⟩
  (first | refine hGx _ ?_ | refine hNx _ ?_ | skip)
  (have fs := @i64.eq_1; (repeat (first | refine hGx _ ?_ | refine hNx _ ?_ | refine W_skip ?_ | refine W_exit ?_ | refine W_ret ?_ | refine W_label ?_ | refine W_scope ?_ | refine W_block ?_ | refine W_seq ?_ | ((first | refine tS fun N hNx => ?_ | refine WL_gE rfl rfl (by kernel_rfl) (by kernel_rfl) fun G hGx => ?_ | refine vcOpsS_sound (by kernel_rfl) ?_ | refine W_ifE fun A B hAx hBx => ?_); refine evT ?_; (first | refine hGx _ ?_ | refine hNx _ ?_ | refine hAx ?_ | refine hBx ?_ | skip)))); (try clear fs))
  refine (kisid_N s _ hs).mono ?_
  rintro d _ ⟨rfl, rfl⟩
  (first | refine hGx _ ?_ | refine hNx _ ?_ | skip)
  have e : ∀ b : Bool, decide (b = b) = true := fun b => decide_eq_true rfl
  (have fs := And.intro @i64.eq_1 e; (repeat (first | refine hGx _ ?_ | refine hNx _ ?_ | refine W_skip ?_ | refine W_exit ?_ | refine W_ret ?_ | refine W_label ?_ | refine W_scope ?_ | refine W_block ?_ | refine W_seq ?_ | ((first | refine tS fun N hNx => ?_ | refine WL_gE rfl rfl (by kernel_rfl) (by kernel_rfl) fun G hGx => ?_ | refine vcOpsS_sound (by kernel_rfl) ?_ | refine W_ifE fun A B hAx hBx => ?_); refine evT ?_; (first | refine hGx _ ?_ | refine hNx _ ?_ | refine hAx ?_ | refine hBx ?_ | skip)))); (try clear fs))
  (first | (show Q .ret _) | (show Q .normal _) | skip); refine hret _ _ (by first | exact .inr rfl | exact .inl rfl) (by first | rfl | assumption | (simp only [put_df, withH_df]; assumption)) ?_; have fs := @i64.eq_1; refine evT ?_; clear fs
  exact ⟨_, Heap.le_refl _⟩
theorem InternIdents_walk (x0 : X) (v0 : Value) (w : World) (o0 : DT.ok (DT.string) x0) (i0 : D.is w Heap.none.others x0.d v0) :
    Calls Tryd.prog 3 #[v0] w fun e w' => e = .returned (.bool true) ∧ Below w.heap.size w w' := by
  obtain ⟨s, rfl, hs⟩ : ∃ s, x0 = .str s ∧ s.size ≤ 140737488351232 := by simpa only [DT.ok] using o0
  exact walk_of (lidents_N s hs) ⟨_, _, rfl, i0, rfl⟩
end Go.Proofs.YtiakpcnglihnbaaDoor
