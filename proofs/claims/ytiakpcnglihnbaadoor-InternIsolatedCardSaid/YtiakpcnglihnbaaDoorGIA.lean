/- Lemmas and contracts of functions, several texts in one: I0 I1 I2 I3. -/
import Derived.Test.YtiakpcnglihnbaaDoorProg
import Derived.Lib.Strings
import Derived.Lib.Bytealg
import Derived.Lib.Walk
import Derived.Laws.Externs
import Derived.WalkKit
import Derived.Test.YtiakpcnglihnbaaDoorGY
/- strings.IndexByte. -/
namespace Go.Proofs.YtiakpcnglihnbaaDoor
set_option linter.unusedVariables false
set_option maxRecDepth 100000 in
theorem ib_c (s : ByteArray) (c : Int) (w : World) :
    Calls Tryd.prog 45 #[.string s, .int .u8 c] w fun e w' => e = .returned (.int .i64 (firstIdx s c.toNat.toUInt8)) ∧ w = w' := by
  go_enter Tryd.func45, Tryd.ntmps45
  go_wp2
  rw [run_callFunc_extern Tryd.func66 (by kernel_rfl) (by kernel_rfl) (by kernel_rfl) (e := Extern.BytealgIndexByte.indexByte) (by kernel_rfl), run_indexByte_string]
  go_wp2
  go_ret
  exact ⟨rfl, rfl⟩
end Go.Proofs.YtiakpcnglihnbaaDoor
/- strings.IndexByte and strings.Trim at a set of ASCII letters. -/
namespace Go.Proofs.YtiakpcnglihnbaaDoor
open Go.RowKit
set_option linter.unusedVariables false
set_option maxRecDepth 100000
set_option linter.unusedSimpArgs false
/-- A contract of the kit's form, at plain values. -/
theorem does_valH {P : Program} {f : FuncId} {us : List Value} {v : Value} {H : Heap} (he : Entr P f) (h : ∀ w, Calls P f us.toArray w fun e w' => e = .returned v ∧ w = w') : Does P f (us.map .val) H fun d H' => d = .val v ∧ H = H' :=
  And.intro he fun w vs hvs hH => by
    have : vs = us := by
      clear h
      induction us generalizing vs with
      | nil => simpa only [List.map_nil, valsAll] using hvs
      | cons u us ih =>
        simp only [List.map_cons, valsAll, D.is] at hvs
        obtain ⟨_, us', rfl, rfl, h2⟩ := hvs
        rw [ih us' h2]
    subst this
    refine (h w).mono ?_
    rintro e w' ⟨rfl, rfl⟩
    exact ⟨v, .val v, H, rfl, is_mk _, hH, Ev.refl _ _, rfl, rfl⟩
def u8D8 (c : UInt8) : D := .val (.int .u8 (c.toNat : Int))
theorem ixb0_N (s : ByteArray) (c : Int) (H : Heap) : Does Tryd.prog 45 [.val (.string s), .val (.int .u8 c)] H fun d H' => d = i64 (firstIdx s c.toNat.toUInt8) ∧ H = H' :=
  does_valH (us := [.string s, .int .u8 c]) (ent_of Tryd.func45 rfl rfl) fun w => ib_c s c w
theorem ixb_N (s : ByteArray) (c : Int) (H : Heap) : Does Tryd.prog 25 [.val (.string s), .val (.int .u8 c)] H fun d H' => d = i64 (firstIdx s c.toNat.toUInt8) ∧ H = H' := by
  refine does_of _ _ Tryd.func25 rfl rfl Tryd.ntmps25 Tryd.results25 (by simp only [List.length_cons, List.length_nil]; omega) fun w0 Q hret => ?_
  (have fs := @i64.eq_1; (repeat (first | refine hGx _ ?_ | refine hNx _ ?_ | refine W_skip ?_ | refine W_exit ?_ | refine W_ret ?_ | refine W_label ?_ | refine W_scope ?_ | refine W_block ?_ | refine W_seq ?_ | ((first | refine tS fun N hNx => ?_ | refine WL_gE rfl rfl (by kernel_rfl) (by kernel_rfl) fun G hGx => ?_ | refine vcOpsS_sound (by kernel_rfl) ?_ | refine W_ifE fun A B hAx hBx => ?_); refine evT ?_; (first | refine hGx _ ?_ | refine hNx _ ?_ | refine hAx ?_ | refine hBx ?_ | skip)))); (try clear fs))
  refine (ixb0_N s c _).mono ?_
  rintro d _ ⟨rfl, rfl⟩
  (have fs := @i64.eq_1; (repeat (first | refine hGx _ ?_ | refine hNx _ ?_ | refine W_skip ?_ | refine W_exit ?_ | refine W_ret ?_ | refine W_label ?_ | refine W_scope ?_ | refine W_block ?_ | refine W_seq ?_ | ((first | refine tS fun N hNx => ?_ | refine WL_gE rfl rfl (by kernel_rfl) (by kernel_rfl) fun G hGx => ?_ | refine vcOpsS_sound (by kernel_rfl) ?_ | refine W_ifE fun A B hAx hBx => ?_); refine evT ?_; (first | refine hGx _ ?_ | refine hNx _ ?_ | refine hAx ?_ | refine hBx ?_ | skip)))); (try clear fs))
  (first | (show Q .ret _) | (show Q .normal _) | skip); refine hret _ _ (by first | exact .inr rfl | exact .inl rfl) (by first | rfl | assumption | (simp only [put_df, withH_df]; assumption)) ?_; have fs := @i64.eq_1; refine evT ?_; clear fs
  exact ⟨_, Heap.le_refl _, rfl⟩
/-- The cells of a set of letters. -/
def setD (p : UInt8 → Bool) : List D := (List.range 256).map fun k => .val (.bool (p (UInt8.ofNat k)))
theorem setD_len (p : UInt8 → Bool) : (setD p).length = 256 := by unfold setD; rw [List.length_map, List.length_range]
theorem setD_get (p : UInt8 → Bool) {k : Nat} (h : k < 256) : (setD p)[k]? = some (.val (.bool (p (UInt8.ofNat k)))) := by
  unfold setD; rw [List.getElem?_map, List.getElem?_range h]; rfl
theorem setD_drop (p : UInt8 → Bool) (c : UInt8) : (setD p).drop c.toNat = .val (.bool (p c)) :: (setD p).drop (c.toNat + 1) := by
  have h : c.toNat < 256 := c.toNat_lt
  rw [List.drop_eq_getElem_cons (by rw [setD_len]; exact h)]
  have e := setD_get p h
  rw [List.getElem?_eq_getElem (by rw [setD_len]; exact h), UInt8.ofNat_toNat] at e
  rw [Option.some.inj e]
theorem setD_set (p : UInt8 → Bool) (c : UInt8) : (setD p).set c.toNat (.val (.bool true)) = setD fun x => p x || x == c := by
  apply List.ext_getElem?
  intro k
  by_cases h : k < 256
  · rw [setD_get _ h, List.getElem?_set, setD_get _ h]
    by_cases e : c.toNat = k
    · subst e
      rw [if_pos rfl, if_pos (by rw [setD_len]; exact h), UInt8.ofNat_toNat]; simp
    · rw [if_neg e]
      have : (UInt8.ofNat k == c) = false := by
        rw [beq_eq_false_iff_ne]
        intro e2
        apply e
        rw [← e2, UInt8.toNat_ofNat', Nat.mod_eq_of_lt h]
      rw [this, Bool.or_false]
  · rw [List.getElem?_eq_none (by rw [List.length_set, setD_len]; omega), List.getElem?_eq_none (by rw [setD_len]; omega)]
theorem setD_put (p : UInt8 → Bool) (c : UInt8) : (setD p).take c.toNat ++ [.val (.bool true)] ++ (setD p).drop (c.toNat + 1) = setD fun x => p x || x == c := by
  rw [← setD_set, List.set_eq_take_append_cons_drop, if_pos (by rw [setD_len]; exact c.toNat_lt), List.append_assoc]; rfl
theorem contains_N (p : UInt8 → Bool) (c : UInt8) (H : Heap) : Does Tryd.prog 67 [.rp (setD p), u8D8 c] H fun d H' => d = .val (.bool (p c)) ∧ H = H' := by
  have hc : ((c.toNat : Nat) : Int).toNat = c.toNat := Int.toNat_natCast _
  have h0 : (0 : Int) ≤ ((c.toNat : Nat) : Int) := Int.natCast_nonneg _
  have h1 : ((c.toNat : Nat) : Int) < 256 := by have := c.toNat_lt; omega
  have hd := setD_drop p c
  refine does_of _ _ Tryd.func67 rfl rfl Tryd.ntmps67 Tryd.results67 (by simp only [List.length_cons, List.length_nil]; omega) fun w0 Q hret => ?_
  (have fs := And.intro @i64.eq_1 (And.intro @u8D8.eq_1 (And.intro hc (And.intro h0 (And.intro h1 (And.intro hd @Nat.mul_one))))); (repeat (first | refine hGx _ ?_ | refine hNx _ ?_ | refine W_skip ?_ | refine W_exit ?_ | refine W_ret ?_ | refine W_label ?_ | refine W_scope ?_ | refine W_block ?_ | refine W_seq ?_ | ((first | refine tS fun N hNx => ?_ | refine WL_gE rfl rfl (by kernel_rfl) (by kernel_rfl) fun G hGx => ?_ | refine vcOpsS_sound (by kernel_rfl) ?_ | refine W_ifE fun A B hAx hBx => ?_); refine evT ?_; (first | refine hGx _ ?_ | refine hNx _ ?_ | refine hAx ?_ | refine hBx ?_ | skip)))); (try clear fs))
  (first | (show Q .ret _) | (show Q .normal _) | skip); refine hret _ _ (by first | exact .inr rfl | exact .inl rfl) (by first | rfl | assumption | (simp only [put_df, withH_df]; assumption)) ?_; have fs := @i64.eq_1; refine evT ?_; clear fs
  exact ⟨_, Heap.le_refl _, rfl⟩
theorem str_get (l : List UInt8) {i : Nat} (h : i < l.length) : (bstr l).data.toList[i]? = some l[i] := by rw [bstr_toList, List.getElem?_eq_getElem h]
theorem ext_drop1 (l : List UInt8) (n : Nat) (h : (bstr l).size = n) : (bstr l).extract 1 n = bstr (l.drop 1) := by
  apply ByteArray.ext
  rw [ByteArray.data_extract]
  subst h
  apply Array.ext'
  rw [Array.toList_extract, bstr_toList, bstr_toList, bstr_size, List.extract, List.take_of_length_le (by rw [List.length_drop]; exact Nat.le_refl _)]
theorem ext_take1 (l : List UInt8) (n : Nat) : (bstr l).extract 0 n = bstr (l.take n) := by
  apply ByteArray.ext
  rw [ByteArray.data_extract]
  apply Array.ext'
  rw [Array.toList_extract, bstr_toList, bstr_toList]
  simp [List.extract]
set_option maxHeartbeats 1000000 in
theorem mkSet_N (cs : List UInt8) (H : Heap) (hc : ∀ c ∈ cs, c.toNat < 128) (hl : cs.length < 1000000) : Does Tryd.prog 48 [.val (.string (bstr cs))] H fun d H' => d = .tup [.agg (setD fun c => cs.contains c), .val (.bool true)] ∧ H = H' := by
  have hsz := bstr_size cs
  have hap : ∀ l : List D, l ++ [] = l := List.append_nil
  refine does_of _ _ Tryd.func48 rfl rfl Tryd.ntmps48 Tryd.results48 (by simp only [List.length_cons, List.length_nil]; omega) fun w0 Q hret => ?_
  (have fs := @i64.eq_1; (repeat (first | refine hGx _ ?_ | refine hNx _ ?_ | refine W_skip ?_ | refine W_exit ?_ | refine W_ret ?_ | refine W_label ?_ | refine W_scope ?_ | refine W_block ?_ | refine W_seq ?_ | ((first | refine tS fun N hNx => ?_ | refine WL_gE rfl rfl (by kernel_rfl) (by kernel_rfl) fun G hGx => ?_ | refine vcOpsS_sound (by kernel_rfl) ?_ | refine W_ifE fun A B hAx hBx => ?_); refine evT ?_; (first | refine hGx _ ?_ | refine hNx _ ?_ | refine hAx ?_ | refine hBx ?_ | skip)))); (try clear fs))
  intro c1 hc1
  refine hNx _ ?_
  (have fs := @i64.eq_1; (repeat (first | refine hGx _ ?_ | refine hNx _ ?_ | refine W_skip ?_ | refine W_exit ?_ | refine W_ret ?_ | refine W_label ?_ | refine W_scope ?_ | refine W_block ?_ | refine W_seq ?_ | ((first | refine tS fun N hNx => ?_ | refine WL_gE rfl rfl (by kernel_rfl) (by kernel_rfl) fun G hGx => ?_ | refine vcOpsS_sound (by kernel_rfl) ?_ | refine W_ifE fun A B hAx hBx => ?_); refine evT ?_; (first | refine hGx _ ?_ | refine hNx _ ?_ | refine hAx ?_ | refine hBx ?_ | skip)))); (try clear fs))
  refine W_loopN cs.length (fun i s => s.df = [] ∧ s.fr 0 = .val (.string (bstr cs)) ∧ s.fr 2 = .ep c1 0 256 0 0 ∧ s.fr 4 = i64 i ∧ s.H = H.upd c1 (.row 70 0 256 [setD fun c => (cs.take i).contains c])) ⟨rfl, rfl, rfl, rfl, ?_⟩ ?_
  · rfl
  rintro i s hi ⟨hdf, f0, f2, f4, hH⟩
  have hx : (i : Int).toNat = i := Int.toNat_natCast _
  have h00 : (0 : Int) ≤ (i : Int) := Int.natCast_nonneg _
  by_cases hil : i < cs.length
  case neg =>
    have p1 : ((i : Int) < (cs.length : Int)) = False := eq_false (by omega)
    rw [List.take_of_length_le (by omega)] at hH
    have z1 : s.H c1 = some (.row 70 0 256 [setD fun c => cs.contains c]) := by rw [hH]; exact Heap.upd_same _ _ _
    have hln := setD_len fun c => cs.contains c
    have hdr : List.drop 256 (setD fun c => cs.contains c) = [] := List.drop_of_length_le (by rw [setD_len]; exact Nat.le_refl _)
    (have fs := And.intro f0 (And.intro f2 (And.intro f4 (And.intro @i64.eq_1 (And.intro p1 (And.intro hsz (And.intro z1 (And.intro hln (And.intro hdr hap)))))))); (repeat (first | refine hGx _ ?_ | refine hNx _ ?_ | refine W_skip ?_ | refine W_exit ?_ | refine W_ret ?_ | refine W_label ?_ | refine W_scope ?_ | refine W_block ?_ | refine W_seq ?_ | ((first | refine tS fun N hNx => ?_ | refine WL_gE rfl rfl (by kernel_rfl) (by kernel_rfl) fun G hGx => ?_ | refine vcOpsS_sound (by kernel_rfl) ?_ | refine W_ifE fun A B hAx hBx => ?_); refine evT ?_; (first | refine hGx _ ?_ | refine hNx _ ?_ | refine hAx ?_ | refine hBx ?_ | skip)))); (try clear fs))
    (first | (show Q .ret _) | (show Q .normal _) | skip); refine hret _ _ (by first | exact .inr rfl | exact .inl rfl) (by first | rfl | assumption | (simp only [put_df, withH_df]; assumption)) ?_; have fs := And.intro f2 hln; refine evT ?_; clear fs
    refine ⟨H, ?_, rfl⟩
    rw [hH]
    exact Heap.le_put (Heap.le_put (Heap.le_refl _) hc1) hc1
  have hil' : (i : Int) < (cs.length : Int) := by omega
  have p1 : ((i : Int) < (cs.length : Int)) = True := eq_true hil'
  have w3 : IntKind.i64.wrap ((i : Int) + 1) = ((i + 1 : Nat) : Int) := by rw [wrap_i64_of (by omega)]; omega
  have hg : cs[i]? = some cs[i] := List.getElem?_eq_getElem hil
  obtain ⟨c, hce⟩ : ∃ c, c = cs[i] := ⟨_, rfl⟩
  have hc128 := hc cs[i] (List.getElem_mem hil)
  rw [← hce] at hg hc128
  have p2 : ((c.toNat : Int) ≥ 128) = False := eq_false (by omega)
  have hcx : ((c.toNat : Nat) : Int).toNat = c.toNat := Int.toNat_natCast _
  have hc0 : (0 : Int) ≤ ((c.toNat : Nat) : Int) := Int.natCast_nonneg _
  have hc1' : ((c.toNat : Nat) : Int) < 256 := by omega
  have z1 : s.H c1 = some (.row 70 0 256 [setD fun c => (cs.take i).contains c]) := by rw [hH]; exact Heap.upd_same _ _ _
  have hln := setD_len fun c => (cs.take i).contains c
  (have fs := And.intro f0 (And.intro f2 (And.intro f4 (And.intro @i64.eq_1 (And.intro p1 (And.intro p2 (And.intro hsz (And.intro hg (And.intro hx (And.intro h00 (And.intro hil' (And.intro z1 (And.intro hln (And.intro hcx (And.intro hc0 (And.intro hc1' (And.intro @Nat.mul_one w3)))))))))))))))); (repeat (first | refine hGx _ ?_ | refine hNx _ ?_ | refine W_skip ?_ | refine W_exit ?_ | refine W_ret ?_ | refine W_label ?_ | refine W_scope ?_ | refine W_block ?_ | refine W_seq ?_ | ((first | refine tS fun N hNx => ?_ | refine WL_gE rfl rfl (by kernel_rfl) (by kernel_rfl) fun G hGx => ?_ | refine vcOpsS_sound (by kernel_rfl) ?_ | refine W_ifE fun A B hAx hBx => ?_); refine evT ?_; (first | refine hGx _ ?_ | refine hNx _ ?_ | refine hAx ?_ | refine hBx ?_ | skip)))); (try clear fs))
  refine ⟨by omega, ?_⟩
  (first | refine hGx _ ?_ | refine hNx _ ?_ | skip)
  (have fs := And.intro f0 (And.intro f2 (And.intro f4 (And.intro @i64.eq_1 w3))); (repeat (first | refine hGx _ ?_ | refine hNx _ ?_ | refine W_skip ?_ | refine W_exit ?_ | refine W_ret ?_ | refine W_label ?_ | refine W_scope ?_ | refine W_block ?_ | refine W_seq ?_ | ((first | refine tS fun N hNx => ?_ | refine WL_gE rfl rfl (by kernel_rfl) (by kernel_rfl) fun G hGx => ?_ | refine vcOpsS_sound (by kernel_rfl) ?_ | refine W_ifE fun A B hAx hBx => ?_); refine evT ?_; (first | refine hGx _ ?_ | refine hNx _ ?_ | refine hAx ?_ | refine hBx ?_ | skip)))); (try clear fs))
  refine ⟨hil, hdf, f0, f2, rfl, ?_⟩
  show s.H.upd c1 _ = _
  rw [setD_put, hH, upd_twice, List.take_succ_eq_append_getElem hil]
  refine congrArg (fun p => H.upd c1 (.row 70 0 256 [setD p])) (funext fun x => ?_)
  rw [List.contains_append, hce]
  simp
  rfl
/-- The set's letters are gone from the end. -/
def TrR (p : UInt8 → Bool) (l : List UInt8) (k : Nat) : Prop := k ≤ l.length ∧ (∀ c ∈ l.drop k, p c = true) ∧ (0 < k → ∀ c, l[k - 1]? = some c → p c = false)
theorem trimR_N (p : UInt8 → Bool) (l : List UInt8) (H : Heap) (hl : l.length ≤ 140737488351232) : Does Tryd.prog 50 [.val (.string (bstr l)), .rp (setD p)] H fun d H' => (∃ k, d = .val (.string (bstr (l.take k))) ∧ TrR p l k) ∧ H = H' := by
  refine does_of _ _ Tryd.func50 rfl rfl Tryd.ntmps50 Tryd.results50 (by simp only [List.length_cons, List.length_nil]; omega) fun w0 Q hret => ?_
  (have fs := @i64.eq_1; (repeat (first | refine hGx _ ?_ | refine hNx _ ?_ | refine W_skip ?_ | refine W_exit ?_ | refine W_ret ?_ | refine W_label ?_ | refine W_scope ?_ | refine W_block ?_ | refine W_seq ?_ | ((first | refine tS fun N hNx => ?_ | refine WL_gE rfl rfl (by kernel_rfl) (by kernel_rfl) fun G hGx => ?_ | refine vcOpsS_sound (by kernel_rfl) ?_ | refine W_ifE fun A B hAx hBx => ?_); refine evT ?_; (first | refine hGx _ ?_ | refine hNx _ ?_ | refine hAx ?_ | refine hBx ?_ | skip)))); (try clear fs))
  refine W_loopN l.length (fun i s => s.df = [] ∧ s.fr 0 = .val (.string (bstr (l.take (l.length - i)))) ∧ s.fr 1 = .rp (setD p) ∧ s.H = H ∧ ∀ c ∈ l.drop (l.length - i), p c = true) ⟨rfl, by rw [Nat.sub_zero, List.take_length]; rfl, rfl, rfl, by rw [Nat.sub_zero, List.drop_length]; intro c hc; cases hc⟩ ?_
  rintro i s hi ⟨hdf, f0, f1, hH, hp⟩
  obtain ⟨k, hk⟩ : ∃ k, k = l.length - i := ⟨_, rfl⟩
  rw [← hk] at f0 hp
  have hsz : (bstr (l.take k)).size = k := by rw [bstr_size, List.length_take]; omega
  by_cases hk0 : 0 < k
  case neg =>
    have p1 : ((k : Int) > 0) = False := eq_false (by omega)
    (have fs := And.intro f0 (And.intro f1 (And.intro @i64.eq_1 (And.intro hsz p1))); (repeat (first | refine hGx _ ?_ | refine hNx _ ?_ | refine W_skip ?_ | refine W_exit ?_ | refine W_ret ?_ | refine W_label ?_ | refine W_scope ?_ | refine W_block ?_ | refine W_seq ?_ | ((first | refine tS fun N hNx => ?_ | refine WL_gE rfl rfl (by kernel_rfl) (by kernel_rfl) fun G hGx => ?_ | refine vcOpsS_sound (by kernel_rfl) ?_ | refine W_ifE fun A B hAx hBx => ?_); refine evT ?_; (first | refine hGx _ ?_ | refine hNx _ ?_ | refine hAx ?_ | refine hBx ?_ | skip)))); (try clear fs))
    (first | (show Q .ret _) | (show Q .normal _) | skip); refine hret _ _ (by first | exact .inr rfl | exact .inl rfl) (by first | rfl | assumption | (simp only [put_df, withH_df]; assumption)) ?_; have fs := f0; refine evT ?_; clear fs
    exact ⟨_, Heap.le_refl _, ⟨⟨k, rfl, by omega, hp, fun h => absurd h hk0⟩, hH.symm⟩⟩
  have p1 : ((k : Int) > 0) = True := eq_true (by omega)
  have w3 : IntKind.i64.wrap ((k : Int) - 1) = ((k - 1 : Nat) : Int) := by rw [wrap_i64_of (by omega)]; omega
  have hx : ((k - 1 : Nat) : Int).toNat = k - 1 := Int.toNat_natCast _
  have h00 : (0 : Int) ≤ ((k - 1 : Nat) : Int) := Int.natCast_nonneg _
  have hkl : k - 1 < l.length := by omega
  have hg : (l.take k)[k - 1]? = some l[k - 1] := by rw [List.getElem?_take_of_lt (by omega), List.getElem?_eq_getElem hkl]
  have hg2 : l[k - 1]? = some l[k - 1] := List.getElem?_eq_getElem hkl
  obtain ⟨c, hc⟩ : ∃ c, c = l[k - 1] := ⟨_, rfl⟩
  rw [← hc] at hg hg2
  (have fs := And.intro f0 (And.intro f1 (And.intro @i64.eq_1 (And.intro hsz (And.intro p1 (And.intro w3 (And.intro hg (And.intro hx h00))))))); (repeat (first | refine hGx _ ?_ | refine hNx _ ?_ | refine W_skip ?_ | refine W_exit ?_ | refine W_ret ?_ | refine W_label ?_ | refine W_scope ?_ | refine W_block ?_ | refine W_seq ?_ | ((first | refine tS fun N hNx => ?_ | refine WL_gE rfl rfl (by kernel_rfl) (by kernel_rfl) fun G hGx => ?_ | refine vcOpsS_sound (by kernel_rfl) ?_ | refine W_ifE fun A B hAx hBx => ?_); refine evT ?_; (first | refine hGx _ ?_ | refine hNx _ ?_ | refine hAx ?_ | refine hBx ?_ | skip)))); (try clear fs))
  refine (contains_N p c _).mono ?_
  rintro d _ ⟨rfl, rfl⟩
  cases hpc : p c
  · (have fs := And.intro f0 @i64.eq_1; (repeat (first | refine hGx _ ?_ | refine hNx _ ?_ | refine W_skip ?_ | refine W_exit ?_ | refine W_ret ?_ | refine W_label ?_ | refine W_scope ?_ | refine W_block ?_ | refine W_seq ?_ | ((first | refine tS fun N hNx => ?_ | refine WL_gE rfl rfl (by kernel_rfl) (by kernel_rfl) fun G hGx => ?_ | refine vcOpsS_sound (by kernel_rfl) ?_ | refine W_ifE fun A B hAx hBx => ?_); refine evT ?_; (first | refine hGx _ ?_ | refine hNx _ ?_ | refine hAx ?_ | refine hBx ?_ | skip)))); (try clear fs))
    (first | (show Q .ret _) | (show Q .normal _) | skip); refine hret _ _ (by first | exact .inr rfl | exact .inl rfl) (by first | rfl | assumption | (simp only [put_df, withH_df]; assumption)) ?_; have fs := f0; refine evT ?_; clear fs
    exact ⟨_, Heap.le_refl _, ⟨⟨k, rfl, by omega, hp, fun _ c' hc' => by rw [hg2] at hc'; injection hc' with hc'; rw [← hc']; exact hpc⟩, hH.symm⟩⟩
  · have he := ext_take1 (l.take k) (k - 1)
    rw [List.take_take, Nat.min_eq_left (by omega)] at he
    have h01 : (0 : Int) ≤ ((k - 1 : Nat) : Int) := h00
    have h02 : ((k - 1 : Nat) : Int) ≤ (k : Int) := by omega
    (have fs := And.intro f0 (And.intro @i64.eq_1 (And.intro hsz (And.intro w3 (And.intro hx (And.intro h01 (And.intro h02 he)))))); (repeat (first | refine hGx _ ?_ | refine hNx _ ?_ | refine W_skip ?_ | refine W_exit ?_ | refine W_ret ?_ | refine W_label ?_ | refine W_scope ?_ | refine W_block ?_ | refine W_seq ?_ | ((first | refine tS fun N hNx => ?_ | refine WL_gE rfl rfl (by kernel_rfl) (by kernel_rfl) fun G hGx => ?_ | refine vcOpsS_sound (by kernel_rfl) ?_ | refine W_ifE fun A B hAx hBx => ?_); refine evT ?_; (first | refine hGx _ ?_ | refine hNx _ ?_ | refine hAx ?_ | refine hBx ?_ | skip)))); (try clear fs))
    have hil : i < l.length := by omega
    refine ⟨hil, hdf, ?_, f1, hH, fun c' hc' => ?_⟩
    · rw [show l.length - (i + 1) = k - 1 by omega]; rfl
    · rw [show l.length - (i + 1) = k - 1 by omega, List.drop_eq_getElem_cons hkl, show k - 1 + 1 = k by omega] at hc'
      rcases List.mem_cons.1 hc' with h | h
      · rw [h, ← hc]; exact hpc
      · exact hp c' h
/-- The set's letters are gone from the beginning. -/
def TrL (p : UInt8 → Bool) (l : List UInt8) (k : Nat) : Prop := k ≤ l.length ∧ (∀ c ∈ l.take k, p c = true) ∧ ∀ c, l[k]? = some c → p c = false
theorem trimL_N (p : UInt8 → Bool) (l : List UInt8) (H : Heap) (hl : l.length ≤ 140737488351232) : Does Tryd.prog 49 [.val (.string (bstr l)), .rp (setD p)] H fun d H' => (∃ k, d = .val (.string (bstr (l.drop k))) ∧ TrL p l k) ∧ H = H' := by
  refine does_of _ _ Tryd.func49 rfl rfl Tryd.ntmps49 Tryd.results49 (by simp only [List.length_cons, List.length_nil]; omega) fun w0 Q hret => ?_
  (have fs := @i64.eq_1; (repeat (first | refine hGx _ ?_ | refine hNx _ ?_ | refine W_skip ?_ | refine W_exit ?_ | refine W_ret ?_ | refine W_label ?_ | refine W_scope ?_ | refine W_block ?_ | refine W_seq ?_ | ((first | refine tS fun N hNx => ?_ | refine WL_gE rfl rfl (by kernel_rfl) (by kernel_rfl) fun G hGx => ?_ | refine vcOpsS_sound (by kernel_rfl) ?_ | refine W_ifE fun A B hAx hBx => ?_); refine evT ?_; (first | refine hGx _ ?_ | refine hNx _ ?_ | refine hAx ?_ | refine hBx ?_ | skip)))); (try clear fs))
  refine W_loopN l.length (fun i s => s.df = [] ∧ s.fr 0 = .val (.string (bstr (l.drop i))) ∧ s.fr 1 = .rp (setD p) ∧ s.H = H ∧ ∀ c ∈ l.take i, p c = true) ⟨rfl, rfl, rfl, rfl, by intro c hc; cases hc⟩ ?_
  rintro i s hi ⟨hdf, f0, f1, hH, hp⟩
  have hsz : (bstr (l.drop i)).size = l.length - i := by rw [bstr_size, List.length_drop]
  by_cases hil : i < l.length
  case neg =>
    have p1 : (((l.length - i : Nat) : Int) > 0) = False := eq_false (by omega)
    (have fs := And.intro f0 (And.intro f1 (And.intro @i64.eq_1 (And.intro hsz p1))); (repeat (first | refine hGx _ ?_ | refine hNx _ ?_ | refine W_skip ?_ | refine W_exit ?_ | refine W_ret ?_ | refine W_label ?_ | refine W_scope ?_ | refine W_block ?_ | refine W_seq ?_ | ((first | refine tS fun N hNx => ?_ | refine WL_gE rfl rfl (by kernel_rfl) (by kernel_rfl) fun G hGx => ?_ | refine vcOpsS_sound (by kernel_rfl) ?_ | refine W_ifE fun A B hAx hBx => ?_); refine evT ?_; (first | refine hGx _ ?_ | refine hNx _ ?_ | refine hAx ?_ | refine hBx ?_ | skip)))); (try clear fs))
    (first | (show Q .ret _) | (show Q .normal _) | skip); refine hret _ _ (by first | exact .inr rfl | exact .inl rfl) (by first | rfl | assumption | (simp only [put_df, withH_df]; assumption)) ?_; have fs := f0; refine evT ?_; clear fs
    exact ⟨_, Heap.le_refl _, ⟨⟨i, rfl, by omega, hp, fun c hc => by rw [List.getElem?_eq_none (by omega)] at hc; cases hc⟩, hH.symm⟩⟩
  have p1 : (((l.length - i : Nat) : Int) > 0) = True := eq_true (by omega)
  have hg2 : l[i]? = some l[i] := List.getElem?_eq_getElem hil
  have hg : (l.drop i)[0]? = some l[i] := by rw [List.getElem?_drop]; exact hg2
  obtain ⟨c, hc⟩ : ∃ c, c = l[i] := ⟨_, rfl⟩
  rw [← hc] at hg hg2
  have h00 : (0 : Int) ≤ 0 := Int.le_refl _
  (have fs := And.intro f0 (And.intro f1 (And.intro @i64.eq_1 (And.intro hsz (And.intro p1 (And.intro hg h00))))); (repeat (first | refine hGx _ ?_ | refine hNx _ ?_ | refine W_skip ?_ | refine W_exit ?_ | refine W_ret ?_ | refine W_label ?_ | refine W_scope ?_ | refine W_block ?_ | refine W_seq ?_ | ((first | refine tS fun N hNx => ?_ | refine WL_gE rfl rfl (by kernel_rfl) (by kernel_rfl) fun G hGx => ?_ | refine vcOpsS_sound (by kernel_rfl) ?_ | refine W_ifE fun A B hAx hBx => ?_); refine evT ?_; (first | refine hGx _ ?_ | refine hNx _ ?_ | refine hAx ?_ | refine hBx ?_ | skip)))); (try clear fs))
  refine (contains_N p c _).mono ?_
  rintro d _ ⟨rfl, rfl⟩
  cases hpc : p c
  · (have fs := And.intro f0 @i64.eq_1; (repeat (first | refine hGx _ ?_ | refine hNx _ ?_ | refine W_skip ?_ | refine W_exit ?_ | refine W_ret ?_ | refine W_label ?_ | refine W_scope ?_ | refine W_block ?_ | refine W_seq ?_ | ((first | refine tS fun N hNx => ?_ | refine WL_gE rfl rfl (by kernel_rfl) (by kernel_rfl) fun G hGx => ?_ | refine vcOpsS_sound (by kernel_rfl) ?_ | refine W_ifE fun A B hAx hBx => ?_); refine evT ?_; (first | refine hGx _ ?_ | refine hNx _ ?_ | refine hAx ?_ | refine hBx ?_ | skip)))); (try clear fs))
    (first | (show Q .ret _) | (show Q .normal _) | skip); refine hret _ _ (by first | exact .inr rfl | exact .inl rfl) (by first | rfl | assumption | (simp only [put_df, withH_df]; assumption)) ?_; have fs := f0; refine evT ?_; clear fs
    exact ⟨_, Heap.le_refl _, ⟨⟨i, rfl, by omega, hp, fun c' hc' => by rw [hg2] at hc'; injection hc' with hc'; rw [← hc']; exact hpc⟩, hH.symm⟩⟩
  · have he := ext_drop1 (l.drop i) _ hsz
    rw [List.drop_drop] at he
    have h01 : (0 : Int) ≤ 1 := by decide
    have h02 : (1 : Int) ≤ ((l.length - i : Nat) : Int) := by omega
    have hx1 : (1 : Int).toNat = 1 := rfl
    have hx2 : ((l.length - i : Nat) : Int).toNat = l.length - i := Int.toNat_natCast _
    (have fs := And.intro f0 (And.intro @i64.eq_1 (And.intro hsz (And.intro hx1 (And.intro hx2 (And.intro h01 (And.intro h02 he)))))); (repeat (first | refine hGx _ ?_ | refine hNx _ ?_ | refine W_skip ?_ | refine W_exit ?_ | refine W_ret ?_ | refine W_label ?_ | refine W_scope ?_ | refine W_block ?_ | refine W_seq ?_ | ((first | refine tS fun N hNx => ?_ | refine WL_gE rfl rfl (by kernel_rfl) (by kernel_rfl) fun G hGx => ?_ | refine vcOpsS_sound (by kernel_rfl) ?_ | refine W_ifE fun A B hAx hBx => ?_); refine evT ?_; (first | refine hGx _ ?_ | refine hNx _ ?_ | refine hAx ?_ | refine hBx ?_ | skip)))); (try clear fs))
    refine ⟨hil, hdf, rfl, f1, hH, fun c' hc' => ?_⟩
    rw [List.take_succ_eq_append_getElem hil] at hc'
    rcases List.mem_append.1 hc' with h | h
    · exact hp c' h
    · rw [List.mem_singleton.1 h, ← hc]; exact hpc
def digB (c : UInt8) : Bool := decide (48 ≤ c.toNat) && decide (c.toNat ≤ 57)
def letB (c : UInt8) : Bool := (decide (97 ≤ c.toNat) && decide (c.toNat ≤ 122)) || (decide (65 ≤ c.toNat) && decide (c.toNat ≤ 90)) || decide (c.toNat = 95)
/-- An identifier. -/
def isIdL (l : List UInt8) : Bool := decide (1 ≤ l.length) && decide (l.length ≤ 255) && !digB (l.headD 0) && l.all fun c => letB c || digB c
def isId (s : ByteArray) : Bool := isIdL s.data.toList
def digS : List UInt8 := [48, 49, 50, 51, 52, 53, 54, 55, 56, 57]
def idS : List UInt8 := [95, 97, 98, 99, 100, 101, 102, 103, 104, 105, 106, 107, 108, 109, 110, 111, 112, 113, 114, 115, 116, 117, 118, 119, 120, 121, 122, 65, 66, 67, 68, 69, 70, 71, 72, 73, 74, 75, 76, 77, 78, 79, 80, 81, 82, 83, 84, 85, 86, 87, 88, 89, 90, 48, 49, 50, 51, 52, 53, 54, 55, 56, 57]
def all256 (f : UInt8 → Bool) : Bool := (List.range 256).all fun k => f (UInt8.ofNat k)
theorem all256_of {f : UInt8 → Bool} (h : all256 f = true) (c : UInt8) : f c = true := by
  have := List.all_eq_true.1 h c.toNat (List.mem_range.2 c.toNat_lt)
  rwa [UInt8.ofNat_toNat] at this
theorem digS_ix (c : UInt8) : decide (firstIdx (bstr digS) c < 0) = !digB c := by
  have h : all256 (fun c => decide (firstIdx (bstr digS) c < 0) == !digB c) = true := by decide +kernel
  simpa using all256_of h c
theorem idS_in (c : UInt8) : idS.contains c = (letB c || digB c) := by
  have h : all256 (fun c => idS.contains c == (letB c || digB c)) = true := by decide +kernel
  simpa using all256_of h c
theorem str0_toL : (⟨#[]⟩ : ByteArray).toList = [] := bstr_toL []
theorem trim_empty {p : UInt8 → Bool} {l : List UInt8} {k j : Nat} (hk : TrR p l k) (hj : TrL p (l.take k) j) : (l.take k).drop j = [] ↔ (l.all p) = true := by
  obtain ⟨k1, k2, k3⟩ := hk
  obtain ⟨j1, j2, j3⟩ := hj
  rw [List.length_take, Nat.min_eq_left k1] at j1
  rw [List.all_eq_true]
  constructor
  · intro h c hc
    have h1 : j = k := by
      have := congrArg List.length h
      rw [List.length_drop, List.length_take, Nat.min_eq_left k1] at this
      simp at this; omega
    rw [← List.take_append_drop k l] at hc
    rcases List.mem_append.1 hc with hc | hc
    · exact j2 c (by rw [h1, List.take_of_length_le (by rw [List.length_take]; omega)]; exact hc)
    · exact k2 c hc
  · intro h
    by_cases h0 : 0 < k
    · have hlt : k - 1 < l.length := by omega
      have := k3 h0 _ (List.getElem?_eq_getElem hlt)
      rw [h _ (List.getElem_mem hlt)] at this
      cases this
    · have : k = 0 := by omega
      subst this
      simp
/-- strings.Trim at the identifiers' letters. -/
theorem trimId_N (l : List UInt8) (H : Heap) (hl : l.length ≤ 140737488351232) : Does Tryd.prog 26 [.val (.string (bstr l)), .val (.string (bstr idS))] H fun d H' => (∃ m : List UInt8, d = .val (.string (bstr m)) ∧ (m = [] ↔ (l.all fun c => letB c || digB c) = true)) ∧ H = H' := by
  have hcs : (fun c => idS.contains c) = fun c => letB c || digB c := funext idS_in
  have hsz : (bstr idS).size = 63 := bstr_size _
  have q1 : ((bstr idS).toList = (⟨#[]⟩ : ByteArray).toList) = False := eq_false (by rw [bstr_toL, str0_toL]; decide)
  have q3 : ((63 : Int) = 1) = False := eq_false (by decide)
  by_cases h0 : l = []
  · have q2 : ((bstr l).toList = (⟨#[]⟩ : ByteArray).toList) = True := eq_true (by rw [bstr_toL, str0_toL]; exact h0)
    refine does_of _ _ Tryd.func26 rfl rfl Tryd.ntmps26 Tryd.results26 (by simp only [List.length_cons, List.length_nil]; omega) fun w0 Q hret => ?_
    (have fs := And.intro @i64.eq_1 (And.intro q1 q2); (repeat (first | refine hGx _ ?_ | refine hNx _ ?_ | refine W_skip ?_ | refine W_exit ?_ | refine W_ret ?_ | refine W_label ?_ | refine W_scope ?_ | refine W_block ?_ | refine W_seq ?_ | ((first | refine tS fun N hNx => ?_ | refine WL_gE rfl rfl (by kernel_rfl) (by kernel_rfl) fun G hGx => ?_ | refine vcOpsS_sound (by kernel_rfl) ?_ | refine W_ifE fun A B hAx hBx => ?_); refine evT ?_; (first | refine hGx _ ?_ | refine hNx _ ?_ | refine hAx ?_ | refine hBx ?_ | skip)))); (try clear fs))
    (first | (show Q .ret _) | (show Q .normal _) | skip); refine hret _ _ (by first | exact .inr rfl | exact .inl rfl) (by first | rfl | assumption | (simp only [put_df, withH_df]; assumption)) ?_; have fs := @i64.eq_1; refine evT ?_; clear fs
    exact ⟨_, Heap.le_refl _, ⟨l, rfl, by subst h0; simp⟩, rfl⟩
  have q2 : ((bstr l).toList = (⟨#[]⟩ : ByteArray).toList) = False := eq_false (by rw [bstr_toL, str0_toL]; exact h0)
  refine does_of _ _ Tryd.func26 rfl rfl Tryd.ntmps26 Tryd.results26 (by simp only [List.length_cons, List.length_nil]; omega) fun w0 Q hret => ?_
  (have fs := And.intro @i64.eq_1 (And.intro q1 (And.intro q2 (And.intro q3 hsz))); (repeat (first | refine hGx _ ?_ | refine hNx _ ?_ | refine W_skip ?_ | refine W_exit ?_ | refine W_ret ?_ | refine W_label ?_ | refine W_scope ?_ | refine W_block ?_ | refine W_seq ?_ | ((first | refine tS fun N hNx => ?_ | refine WL_gE rfl rfl (by kernel_rfl) (by kernel_rfl) fun G hGx => ?_ | refine vcOpsS_sound (by kernel_rfl) ?_ | refine W_ifE fun A B hAx hBx => ?_); refine evT ?_; (first | refine hGx _ ?_ | refine hNx _ ?_ | refine hAx ?_ | refine hBx ?_ | skip)))); (try clear fs))
  refine (mkSet_N idS _ (by decide) (by decide)).mono ?_
  rintro d _ ⟨rfl, rfl⟩
  rw [hcs]
  have hln := setD_len fun c => letB c || digB c
  (have fs := And.intro @i64.eq_1 hln; (repeat (first | refine hGx _ ?_ | refine hNx _ ?_ | refine W_skip ?_ | refine W_exit ?_ | refine W_ret ?_ | refine W_label ?_ | refine W_scope ?_ | refine W_block ?_ | refine W_seq ?_ | ((first | refine tS fun N hNx => ?_ | refine WL_gE rfl rfl (by kernel_rfl) (by kernel_rfl) fun G hGx => ?_ | refine vcOpsS_sound (by kernel_rfl) ?_ | refine W_ifE fun A B hAx hBx => ?_); refine evT ?_; (first | refine hGx _ ?_ | refine hNx _ ?_ | refine hAx ?_ | refine hBx ?_ | skip)))); (try clear fs))
  intro c1 hc1
  refine hNx _ ?_
  refine W_frzp 5 rfl (Heap.upd_same _ _ _) rfl ?_; simp only [St.frzp, put_H, wdf_H, withH_H, withH_put, wdf_withH, withH_withH, init_H, init_withH, Heap.del_upd_same, Heap.del_none hc1, withH_self]
  (have fs := @i64.eq_1; (repeat (first | refine hGx _ ?_ | refine hNx _ ?_ | refine W_skip ?_ | refine W_exit ?_ | refine W_ret ?_ | refine W_label ?_ | refine W_scope ?_ | refine W_block ?_ | refine W_seq ?_ | ((first | refine tS fun N hNx => ?_ | refine WL_gE rfl rfl (by kernel_rfl) (by kernel_rfl) fun G hGx => ?_ | refine vcOpsS_sound (by kernel_rfl) ?_ | refine W_ifE fun A B hAx hBx => ?_); refine evT ?_; (first | refine hGx _ ?_ | refine hNx _ ?_ | refine hAx ?_ | refine hBx ?_ | skip)))); (try clear fs))
  refine (trimR_N _ l _ hl).mono ?_
  rintro d _ ⟨⟨k, rfl, hk⟩, rfl⟩
  (have fs := @i64.eq_1; (repeat (first | refine hGx _ ?_ | refine hNx _ ?_ | refine W_skip ?_ | refine W_exit ?_ | refine W_ret ?_ | refine W_label ?_ | refine W_scope ?_ | refine W_block ?_ | refine W_seq ?_ | ((first | refine tS fun N hNx => ?_ | refine WL_gE rfl rfl (by kernel_rfl) (by kernel_rfl) fun G hGx => ?_ | refine vcOpsS_sound (by kernel_rfl) ?_ | refine W_ifE fun A B hAx hBx => ?_); refine evT ?_; (first | refine hGx _ ?_ | refine hNx _ ?_ | refine hAx ?_ | refine hBx ?_ | skip)))); (try clear fs))
  refine (trimL_N _ (l.take k) _ (by rw [List.length_take]; omega)).mono ?_
  rintro d _ ⟨⟨j, rfl, hj⟩, rfl⟩
  (have fs := @i64.eq_1; (repeat (first | refine hGx _ ?_ | refine hNx _ ?_ | refine W_skip ?_ | refine W_exit ?_ | refine W_ret ?_ | refine W_label ?_ | refine W_scope ?_ | refine W_block ?_ | refine W_seq ?_ | ((first | refine tS fun N hNx => ?_ | refine WL_gE rfl rfl (by kernel_rfl) (by kernel_rfl) fun G hGx => ?_ | refine vcOpsS_sound (by kernel_rfl) ?_ | refine W_ifE fun A B hAx hBx => ?_); refine evT ?_; (first | refine hGx _ ?_ | refine hNx _ ?_ | refine hAx ?_ | refine hBx ?_ | skip)))); (try clear fs))
  (first | (show Q .ret _) | (show Q .normal _) | skip); refine hret _ _ (by first | exact .inr rfl | exact .inl rfl) (by first | rfl | assumption | (simp only [put_df, withH_df]; assumption)) ?_; have fs := @i64.eq_1; refine evT ?_; clear fs
  exact ⟨_, Heap.le_refl _, ⟨_, rfl, trim_empty hk hj⟩, rfl⟩
theorem isIdL_eq {l : List UInt8} (c : UInt8) (t : List UInt8) (h : l = c :: t) (hl : l.length ≤ 255) (b : Bool) (m : List UInt8) (hm : m = [] ↔ (l.all fun c => letB c || digB c) = true) : isIdL l = (!digB c && decide (m = [])) := by
  unfold isIdL
  have h1 : decide (1 ≤ l.length) = true := by rw [h]; simp
  have h2 : decide (l.length ≤ 255) = true := by simp [hl]
  have h3 : l.headD 0 = c := by rw [h]; rfl
  rw [h1, h2, h3, Bool.true_and, Bool.true_and]
  congr 1
  cases e : l.all fun c => letB c || digB c
  · rw [eq_comm, decide_eq_false]; intro h; rw [hm.1 h] at e; cases e
  · rw [eq_comm, decide_eq_true (hm.2 e)]
theorem isid_L (l : List UInt8) (H : Heap) (hl : l.length ≤ 140737488351232) : Does Tryd.prog 9 [.val (.string (bstr l))] H fun d H' => d = .val (.bool (isIdL l)) ∧ H = H' := by
  have hsz : (bstr l).size = l.length := bstr_size _
  cases l with
  | nil =>
    have q2 : ((bstr []).toList = (⟨#[]⟩ : ByteArray).toList) = True := eq_true (by rw [bstr_toL, str0_toL])
    refine does_of _ _ Tryd.func9 rfl rfl Tryd.ntmps9 Tryd.results9 (by simp only [List.length_cons, List.length_nil]; omega) fun w0 Q hret => ?_
    (have fs := And.intro @i64.eq_1 q2; (repeat (first | refine hGx _ ?_ | refine hNx _ ?_ | refine W_skip ?_ | refine W_exit ?_ | refine W_ret ?_ | refine W_label ?_ | refine W_scope ?_ | refine W_block ?_ | refine W_seq ?_ | ((first | refine tS fun N hNx => ?_ | refine WL_gE rfl rfl (by kernel_rfl) (by kernel_rfl) fun G hGx => ?_ | refine vcOpsS_sound (by kernel_rfl) ?_ | refine W_ifE fun A B hAx hBx => ?_); refine evT ?_; (first | refine hGx _ ?_ | refine hNx _ ?_ | refine hAx ?_ | refine hBx ?_ | skip)))); (try clear fs))
    (first | (show Q .ret _) | (show Q .normal _) | skip); refine hret _ _ (by first | exact .inr rfl | exact .inl rfl) (by first | rfl | assumption | (simp only [put_df, withH_df]; assumption)) ?_; have fs := @i64.eq_1; refine evT ?_; clear fs
    exact ⟨_, Heap.le_refl _, rfl, rfl⟩
  | cons c t =>
    obtain ⟨l, hle⟩ : ∃ l, l = c :: t := ⟨_, rfl⟩
    rw [← hle] at hsz hl ⊢
    have q2 : ((bstr l).toList = (⟨#[]⟩ : ByteArray).toList) = False := eq_false (by rw [bstr_toL, str0_toL, hle]; intro h; cases h)
    by_cases h255 : l.length ≤ 255
    case neg =>
      have q3 : ((l.length : Int) ≤ 255) = False := eq_false (by omega)
      have e0 : isIdL l = false := by unfold isIdL; rw [decide_eq_false h255]; simp
      rw [e0]
      refine does_of _ _ Tryd.func9 rfl rfl Tryd.ntmps9 Tryd.results9 (by simp only [List.length_cons, List.length_nil]; omega) fun w0 Q hret => ?_
      (have fs := And.intro @i64.eq_1 (And.intro q2 (And.intro hsz q3)); (repeat (first | refine hGx _ ?_ | refine hNx _ ?_ | refine W_skip ?_ | refine W_exit ?_ | refine W_ret ?_ | refine W_label ?_ | refine W_scope ?_ | refine W_block ?_ | refine W_seq ?_ | ((first | refine tS fun N hNx => ?_ | refine WL_gE rfl rfl (by kernel_rfl) (by kernel_rfl) fun G hGx => ?_ | refine vcOpsS_sound (by kernel_rfl) ?_ | refine W_ifE fun A B hAx hBx => ?_); refine evT ?_; (first | refine hGx _ ?_ | refine hNx _ ?_ | refine hAx ?_ | refine hBx ?_ | skip)))); (try clear fs))
      (first | (show Q .ret _) | (show Q .normal _) | skip); refine hret _ _ (by first | exact .inr rfl | exact .inl rfl) (by first | rfl | assumption | (simp only [put_df, withH_df]; assumption)) ?_; have fs := @i64.eq_1; refine evT ?_; clear fs
      exact ⟨_, Heap.le_refl _, rfl⟩
    have q3 : ((l.length : Int) ≤ 255) = True := eq_true (by omega)
    have hg : l[0]? = some c := by rw [hle]; rfl
    have h00 : (0 : Int) ≤ 0 := Int.le_refl _
    refine does_of _ _ Tryd.func9 rfl rfl Tryd.ntmps9 Tryd.results9 (by simp only [List.length_cons, List.length_nil]; omega) fun w0 Q hret => ?_
    (have fs := And.intro @i64.eq_1 (And.intro q2 (And.intro hsz (And.intro q3 (And.intro hg h00)))); (repeat (first | refine hGx _ ?_ | refine hNx _ ?_ | refine W_skip ?_ | refine W_exit ?_ | refine W_ret ?_ | refine W_label ?_ | refine W_scope ?_ | refine W_block ?_ | refine W_seq ?_ | ((first | refine tS fun N hNx => ?_ | refine WL_gE rfl rfl (by kernel_rfl) (by kernel_rfl) fun G hGx => ?_ | refine vcOpsS_sound (by kernel_rfl) ?_ | refine W_ifE fun A B hAx hBx => ?_); refine evT ?_; (first | refine hGx _ ?_ | refine hNx _ ?_ | refine hAx ?_ | refine hBx ?_ | skip)))); (try clear fs))
    refine (ixb_N (bstr digS) (c.toNat : Int) _).mono ?_
    rintro d _ ⟨rfl, rfl⟩
    have hcc : ((c.toNat : Nat) : Int).toNat.toUInt8 = c := by rw [Int.toNat_natCast]; exact UInt8.ofNat_toNat
    rw [hcc]
    have hd := digS_ix c
    cases hdc : digB c
    · rw [hdc] at hd
      have q4 : (firstIdx (bstr digS) c < 0) = True := eq_true (of_decide_eq_true hd)
      (have fs := And.intro @i64.eq_1 q4; (repeat (first | refine hGx _ ?_ | refine hNx _ ?_ | refine W_skip ?_ | refine W_exit ?_ | refine W_ret ?_ | refine W_label ?_ | refine W_scope ?_ | refine W_block ?_ | refine W_seq ?_ | ((first | refine tS fun N hNx => ?_ | refine WL_gE rfl rfl (by kernel_rfl) (by kernel_rfl) fun G hGx => ?_ | refine vcOpsS_sound (by kernel_rfl) ?_ | refine W_ifE fun A B hAx hBx => ?_); refine evT ?_; (first | refine hGx _ ?_ | refine hNx _ ?_ | refine hAx ?_ | refine hBx ?_ | skip)))); (try clear fs))
      refine (trimId_N l _ hl).mono ?_
      rintro d _ ⟨⟨m, rfl, hm⟩, rfl⟩
      have he := isIdL_eq c t hle h255 true m hm
      rw [hdc] at he
      have q5 : ((bstr m).toList = (⟨#[]⟩ : ByteArray).toList) = (m = []) := by rw [bstr_toL, str0_toL]
      (first | refine hGx _ ?_ | refine hNx _ ?_ | skip)
      (have fs := And.intro @i64.eq_1 q5; (repeat (first | refine hGx _ ?_ | refine hNx _ ?_ | refine W_skip ?_ | refine W_exit ?_ | refine W_ret ?_ | refine W_label ?_ | refine W_scope ?_ | refine W_block ?_ | refine W_seq ?_ | ((first | refine tS fun N hNx => ?_ | refine WL_gE rfl rfl (by kernel_rfl) (by kernel_rfl) fun G hGx => ?_ | refine vcOpsS_sound (by kernel_rfl) ?_ | refine W_ifE fun A B hAx hBx => ?_); refine evT ?_; (first | refine hGx _ ?_ | refine hNx _ ?_ | refine hAx ?_ | refine hBx ?_ | skip)))); (try clear fs))
      (first | (show Q .ret _) | (show Q .normal _) | skip); refine hret _ _ (by first | exact .inr rfl | exact .inl rfl) (by first | rfl | assumption | (simp only [put_df, withH_df]; assumption)) ?_; have fs := @i64.eq_1; refine evT ?_; clear fs
      exact ⟨_, Heap.le_refl _, by rw [he]; rfl, rfl⟩
    · rw [hdc] at hd
      have q4 : (firstIdx (bstr digS) c < 0) = False := eq_false (of_decide_eq_false hd)
      have e0 : isIdL l = false := by unfold isIdL; rw [show l.headD 0 = c by rw [hle]; rfl, hdc]; simp
      (first | refine hGx _ ?_ | refine hNx _ ?_ | skip)
      (have fs := And.intro @i64.eq_1 q4; (repeat (first | refine hGx _ ?_ | refine hNx _ ?_ | refine W_skip ?_ | refine W_exit ?_ | refine W_ret ?_ | refine W_label ?_ | refine W_scope ?_ | refine W_block ?_ | refine W_seq ?_ | ((first | refine tS fun N hNx => ?_ | refine WL_gE rfl rfl (by kernel_rfl) (by kernel_rfl) fun G hGx => ?_ | refine vcOpsS_sound (by kernel_rfl) ?_ | refine W_ifE fun A B hAx hBx => ?_); refine evT ?_; (first | refine hGx _ ?_ | refine hNx _ ?_ | refine hAx ?_ | refine hBx ?_ | skip)))); (try clear fs))
      (first | (show Q .ret _) | (show Q .normal _) | skip); refine hret _ _ (by first | exact .inr rfl | exact .inl rfl) (by first | rfl | assumption | (simp only [put_df, withH_df]; assumption)) ?_; have fs := @i64.eq_1; refine evT ?_; clear fs
      exact ⟨_, Heap.le_refl _, by rw [e0], rfl⟩
theorem tfS (p : Prop) : ∃ b, p = b ∧ ((b = True ∧ p) ∨ (b = False ∧ ¬ p)) := ⟨p, rfl, by by_cases h : p <;> simp [h]⟩
theorem isIdL_bad {l : List UInt8} {i : Nat} {c : UInt8} (hg : l[i]? = some c) (h : letB c = false) (h2 : digB c = false ∨ i = 0) : isIdL l = false := by
  unfold isIdL
  rcases h2 with h2 | h2
  · have : (l.all fun c => letB c || digB c) = false := by
      rw [List.all_eq_false]
      exact ⟨c, List.mem_of_getElem? hg, by rw [h, h2]; decide⟩
    rw [this, Bool.and_false]
  · subst h2
    cases hd : digB c
    · have : (l.all fun c => letB c || digB c) = false := by
        rw [List.all_eq_false]
        exact ⟨c, List.mem_of_getElem? hg, by rw [h, hd]; decide⟩
      rw [this, Bool.and_false]
    · have : l.headD 0 = c := by cases l with
        | nil => cases hg
        | cons a t => injection hg
      rw [this, hd]; simp
theorem isIdL_good {l : List UInt8} (h : ∀ c ∈ l, (letB c || digB c) = true) (h2 : 0 < l.length → digB (l.headD 0) = false) : isIdL l = (decide (1 ≤ l.length) && decide (l.length ≤ 255)) := by
  unfold isIdL
  have : (l.all fun c => letB c || digB c) = true := List.all_eq_true.2 h
  rw [this, Bool.and_true]
  by_cases h0 : 0 < l.length
  · rw [h2 h0, Bool.not_false, Bool.and_true]
  · rw [decide_eq_false (by omega)]; simp
set_option maxHeartbeats 1000000 in
theorem kisid_L (l : List UInt8) (H : Heap) (hl : l.length ≤ 140737488351232) : Does Tryd.prog 10 [.val (.string (bstr l))] H fun d H' => d = .val (.bool (isIdL l)) ∧ H = H' := by
  have hsz : (bstr l).size = l.length := bstr_size _
  refine does_of _ _ Tryd.func10 rfl rfl Tryd.ntmps10 Tryd.results10 (by simp only [List.length_cons, List.length_nil]; omega) fun w0 Q hret => ?_
  (have fs := @i64.eq_1; (repeat (first | refine hGx _ ?_ | refine hNx _ ?_ | refine W_skip ?_ | refine W_exit ?_ | refine W_ret ?_ | refine W_label ?_ | refine W_scope ?_ | refine W_block ?_ | refine W_seq ?_ | ((first | refine tS fun N hNx => ?_ | refine WL_gE rfl rfl (by kernel_rfl) (by kernel_rfl) fun G hGx => ?_ | refine vcOpsS_sound (by kernel_rfl) ?_ | refine W_ifE fun A B hAx hBx => ?_); refine evT ?_; (first | refine hGx _ ?_ | refine hNx _ ?_ | refine hAx ?_ | refine hBx ?_ | skip)))); (try clear fs))
  refine W_loopN l.length (fun i s => s.df = [] ∧ s.fr 0 = .val (.string (bstr l)) ∧ s.fr 3 = i64 i ∧ s.H = H ∧ (∀ c ∈ l.take i, (letB c || digB c) = true) ∧ (0 < i → digB (l.headD 0) = false)) ⟨rfl, rfl, rfl, rfl, (by intro c hc; cases hc), fun h => absurd h (by omega)⟩ ?_
  rintro i s hi ⟨hdf, f0, f3, hH, ha, hd⟩
  have hx : (i : Int).toNat = i := Int.toNat_natCast _
  have h00 : (0 : Int) ≤ (i : Int) := Int.natCast_nonneg _
  by_cases hil : i < l.length
  case neg =>
    have p1 : ((i : Int) < (l.length : Int)) = False := eq_false (by omega)
    rw [List.take_of_length_le (by omega)] at ha
    have hgood := isIdL_good ha fun h => hd (by omega)
    have q1 : ((l.length : Int) ≥ 1) = (1 ≤ l.length) := propext ⟨fun h => by omega, fun h => by omega⟩
    have q2 : ((l.length : Int) ≤ 255) = (l.length ≤ 255) := propext ⟨fun h => by omega, fun h => by omega⟩
    by_cases hl1 : 1 ≤ l.length
    · have q3 : (1 ≤ l.length) = True := eq_true hl1
      (have fs := And.intro f0 (And.intro f3 (And.intro @i64.eq_1 (And.intro p1 (And.intro hsz (And.intro q1 (And.intro q2 q3)))))); (repeat (first | refine hGx _ ?_ | refine hNx _ ?_ | refine W_skip ?_ | refine W_exit ?_ | refine W_ret ?_ | refine W_label ?_ | refine W_scope ?_ | refine W_block ?_ | refine W_seq ?_ | ((first | refine tS fun N hNx => ?_ | refine WL_gE rfl rfl (by kernel_rfl) (by kernel_rfl) fun G hGx => ?_ | refine vcOpsS_sound (by kernel_rfl) ?_ | refine W_ifE fun A B hAx hBx => ?_); refine evT ?_; (first | refine hGx _ ?_ | refine hNx _ ?_ | refine hAx ?_ | refine hBx ?_ | skip)))); (try clear fs))
      (first | (show Q .ret _) | (show Q .normal _) | skip); refine hret _ _ (by first | exact .inr rfl | exact .inl rfl) (by first | rfl | assumption | (simp only [put_df, withH_df]; assumption)) ?_; have fs := hdf; refine evT ?_; clear fs
      exact ⟨_, Heap.le_refl _, by rw [hgood, decide_eq_true hl1, Bool.true_and], hH.symm⟩
    · have q3 : (1 ≤ l.length) = False := eq_false hl1
      (have fs := And.intro f0 (And.intro f3 (And.intro @i64.eq_1 (And.intro p1 (And.intro hsz (And.intro q1 (And.intro q2 q3)))))); (repeat (first | refine hGx _ ?_ | refine hNx _ ?_ | refine W_skip ?_ | refine W_exit ?_ | refine W_ret ?_ | refine W_label ?_ | refine W_scope ?_ | refine W_block ?_ | refine W_seq ?_ | ((first | refine tS fun N hNx => ?_ | refine WL_gE rfl rfl (by kernel_rfl) (by kernel_rfl) fun G hGx => ?_ | refine vcOpsS_sound (by kernel_rfl) ?_ | refine W_ifE fun A B hAx hBx => ?_); refine evT ?_; (first | refine hGx _ ?_ | refine hNx _ ?_ | refine hAx ?_ | refine hBx ?_ | skip)))); (try clear fs))
      (first | (show Q .ret _) | (show Q .normal _) | skip); refine hret _ _ (by first | exact .inr rfl | exact .inl rfl) (by first | rfl | assumption | (simp only [put_df, withH_df]; assumption)) ?_; have fs := hdf; refine evT ?_; clear fs
      exact ⟨_, Heap.le_refl _, by rw [hgood, decide_eq_false hl1, Bool.false_and], hH.symm⟩
  have hil' : (i : Int) < (l.length : Int) := by omega
  have p1 : ((i : Int) < (l.length : Int)) = True := eq_true hil'
  have w3 : IntKind.i64.wrap ((i : Int) + 1) = ((i + 1 : Nat) : Int) := by rw [wrap_i64_of (by omega)]; omega
  have hg : l[i]? = some l[i] := List.getElem?_eq_getElem hil
  obtain ⟨c, hc⟩ : ∃ c, c = l[i] := ⟨_, rfl⟩
  rw [← hc] at hg
  have hnext : (letB c || digB c) = true → (i = 0 → digB c = false) → (∀ c ∈ l.take (i + 1), (letB c || digB c) = true) ∧ (0 < i + 1 → digB (l.headD 0) = false) := fun h1 h2 => by
    refine ⟨fun x hx => ?_, fun _ => ?_⟩
    · rw [List.take_succ_eq_append_getElem hil] at hx
      rcases List.mem_append.1 hx with h | h
      · exact ha x h
      · rw [List.mem_singleton.1 h, ← hc]; exact h1
    · by_cases h0 : i = 0
      · have : l.headD 0 = c := by
          cases l with
          | nil => simp at hil
          | cons a t => rw [hc]; simp [h0]
        rw [this]; exact h2 h0
      · exact hd (by omega)
  have hbad := fun h h2 => isIdL_bad hg h h2
  rcases tfS ((c.toNat : Int) ≥ 97) with ⟨_, p97, ⟨rfl, h97⟩ | ⟨rfl, h97⟩⟩ <;> rcases tfS ((c.toNat : Int) ≤ 122) with ⟨_, p122, ⟨rfl, h122⟩ | ⟨rfl, h122⟩⟩ <;> (try (exfalso; omega)) <;>
    rcases tfS ((c.toNat : Int) ≥ 65) with ⟨_, p65, ⟨rfl, h65⟩ | ⟨rfl, h65⟩⟩ <;> (try (exfalso; omega)) <;> rcases tfS ((c.toNat : Int) ≤ 90) with ⟨_, p90, ⟨rfl, h90⟩ | ⟨rfl, h90⟩⟩ <;> (try (exfalso; omega)) <;>
    rcases tfS ((c.toNat : Int) = 95) with ⟨_, p95, ⟨rfl, h95⟩ | ⟨rfl, h95⟩⟩ <;> (try (exfalso; omega)) <;> rcases tfS ((c.toNat : Int) < 48) with ⟨_, p48, ⟨rfl, h48⟩ | ⟨rfl, h48⟩⟩ <;> (try (exfalso; omega)) <;>
    rcases tfS ((c.toNat : Int) > 57) with ⟨_, p57, ⟨rfl, h57⟩ | ⟨rfl, h57⟩⟩ <;> (try (exfalso; omega)) <;> rcases tfS ((i : Int) = 0) with ⟨_, p0, ⟨rfl, h0⟩ | ⟨rfl, h0⟩⟩
  all_goals ((have fs := And.intro f0 (And.intro f3 (And.intro @i64.eq_1 (And.intro p1 (And.intro hsz (And.intro hg (And.intro hx (And.intro h00 (And.intro hil' (And.intro w3 (And.intro p97 (And.intro p122 (And.intro p65 (And.intro p90 (And.intro p95 (And.intro p48 (And.intro p57 p0)))))))))))))))); (repeat (first | refine hGx _ ?_ | refine hNx _ ?_ | refine W_skip ?_ | refine W_exit ?_ | refine W_ret ?_ | refine W_label ?_ | refine W_scope ?_ | refine W_block ?_ | refine W_seq ?_ | ((first | refine tS fun N hNx => ?_ | refine WL_gE rfl rfl (by kernel_rfl) (by kernel_rfl) fun G hGx => ?_ | refine vcOpsS_sound (by kernel_rfl) ?_ | refine W_ifE fun A B hAx hBx => ?_); refine evT ?_; (first | refine hGx _ ?_ | refine hNx _ ?_ | refine hAx ?_ | refine hBx ?_ | skip)))); (try clear fs)))
  all_goals first
    | exact ⟨hil, hdf, f0, rfl, hH, hnext (by unfold letB digB; simp; omega) (by unfold digB; simp; omega)⟩
    | ((first | (show Q .ret _) | (show Q .normal _) | skip); refine hret _ _ (by first | exact .inr rfl | exact .inl rfl) (by first | rfl | assumption | (simp only [put_df, withH_df]; assumption)) ?_; have fs := hdf; refine evT ?_; clear fs
       exact ⟨_, Heap.le_refl _, by rw [hbad (by unfold letB; simp; omega) (by unfold digB; simp; omega)], hH.symm⟩)
end Go.Proofs.YtiakpcnglihnbaaDoor
