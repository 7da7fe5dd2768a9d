/- Lemmas and contracts of functions, several texts in one: U1 U2 U3. -/
import Derived.Test.YtbcghjcakincoaaGY
import Derived.Test.YtbcghjcakincoaaGBY
/- What a type consists of: the regions that it mentions, whether its values may be copied; in plain Lean. -/
namespace Go.Proofs.Ytbcghjcakincoaa
open Go.RowKit
set_option linter.unusedVariables false
set_option linter.unusedSimpArgs false
/-- The types that a type refers to. -/
def parA (t : TyS) : List Int := if t.k = 3 then [t.e] else t.ar
def parF (t : TyS) : List Int := t.ar
/-- What is reached from a type. -/
inductive Rch (par : TyS → List Int) (ts : List TyS) : Int → Int → Prop
  | refl (a : Int) : Rch par ts a a
  | step {a p b : Int} (h : p ∈ par (tyAt ts a)) (h2 : Rch par ts p b) : Rch par ts a b
theorem Rch.iff {par : TyS → List Int} {ts : List TyS} {a b : Int} : Rch par ts a b ↔ a = b ∨ ∃ p ∈ par (tyAt ts a), Rch par ts p b := by
  constructor
  · intro h
    cases h with
    | refl => exact .inl rfl
    | step h h2 => exact .inr ⟨_, h, h2⟩
  · rintro (rfl | ⟨p, hp, h⟩)
    · exact .refl _
    · exact .step hp h
theorem Rch.trans {par : TyS → List Int} {ts : List TyS} {a b c : Int} (h : Rch par ts a b) : Rch par ts b c → Rch par ts a c := by
  induction h with
  | refl => exact id
  | step h _ ih => exact fun h3 => .step h (ih h3)
/-- Parts lie before. -/
def Dn (par : TyS → List Int) (ts : List TyS) : Prop := ∀ a, InR ts.length a → ∀ p ∈ par (tyAt ts a), 0 ≤ p ∧ p < a
theorem Dn.A {ts : List TyS} (hw : wfT ts) : Dn parA ts := fun a ha p hp => by
  have := wfT_at hw ha
  unfold parA at hp
  split at hp
  · rename_i h3
    rw [List.mem_singleton] at hp
    rw [hp]
    exact this.1 h3
  · exact this.2 p hp
theorem Dn.F {ts : List TyS} (hw : wfT ts) : Dn parF ts := fun a ha p hp => (wfT_at hw ha).2 p hp
theorem Rch.le {par : TyS → List Int} {ts : List TyS} (hd : Dn par ts) {a b : Int} (h : Rch par ts a b) : InR ts.length a → 0 ≤ b ∧ b ≤ a := by
  induction h with
  | refl => exact fun ha => ⟨ha.1, Int.le_refl _⟩
  | step hp _ ih =>
    intro ha
    have h1 := hd _ ha _ hp
    have h2 := ih ⟨h1.1, Int.lt_trans h1.2 ha.2⟩
    exact ⟨h2.1, by omega⟩
/-- A type mentions a region. -/
def Ment (ts : List TyS) (i r : Int) : Prop := InR ts.length i ∧ ∃ b, Rch parA ts i b ∧ (tyAt ts b).k = 3 ∧ (tyAt ts b).r = r
open Classical in
noncomputable def mentB (ts : List TyS) (i r : Int) : Bool := decide (Ment ts i r)
theorem mentB_t {ts : List TyS} {i r : Int} : mentB ts i r = true ↔ Ment ts i r := by simp [mentB]
theorem mentB_f {ts : List TyS} {i r : Int} : mentB ts i r = false ↔ ¬ Ment ts i r := by simp [mentB]
theorem ment_iff {ts : List TyS} (hw : wfT ts) {i r : Int} (hi : InR ts.length i) : Ment ts i r ↔ ((tyAt ts i).k = 3 ∧ (tyAt ts i).r = r) ∨ ∃ p ∈ parA (tyAt ts i), Ment ts p r := by
  have hd := Dn.A hw
  constructor
  · rintro ⟨_, b, hb, h3, hr⟩
    rcases Rch.iff.1 hb with rfl | ⟨p, hp, h⟩
    · exact .inl ⟨h3, hr⟩
    · have := hd i hi p hp
      exact .inr ⟨p, hp, ⟨this.1, Int.lt_trans this.2 hi.2⟩, b, h, h3, hr⟩
  · rintro (⟨h3, hr⟩ | ⟨p, hp, _, b, h, h3, hr⟩)
    · exact ⟨hi, i, .refl _, h3, hr⟩
    · exact ⟨hi, b, .step hp h, h3, hr⟩
/-- The regions that a type mentions, in order. -/
noncomputable def regL (ts : List TyS) (i : Int) : List Int := ((List.range 1000000).map Int.ofNat).filter fun r => mentB ts i r
theorem regL_strict (ts : List TyS) (i : Int) : (regL ts i).Pairwise (· < ·) := by
  refine List.Pairwise.filter _ ?_
  rw [List.pairwise_map]
  exact List.pairwise_lt_range.imp fun h => by show (_ : Int) < _; simp only [Int.ofNat_eq_natCast]; omega
theorem regL_mem {ts : List TyS} {i r : Int} : r ∈ regL ts i ↔ InR 1000000 r ∧ Ment ts i r := by
  unfold regL
  rw [List.mem_filter, List.mem_map, mentB_t]
  constructor
  · rintro ⟨⟨k, hk, rfl⟩, h⟩
    rw [List.mem_range] at hk
    exact ⟨⟨Int.natCast_nonneg _, by simp only [Int.ofNat_eq_natCast]; omega⟩, h⟩
  · rintro ⟨h1, h2⟩
    unfold InR at h1
    exact ⟨⟨r.toNat, by rw [List.mem_range]; omega, by simp only [Int.ofNat_eq_natCast]; omega⟩, h2⟩
/-- The values of a type may be copied. -/
def Cop (ts : List TyS) (i : Int) : Prop := InR ts.length i ∧ ∀ b, Rch parF ts i b → ¬ ((tyAt ts b).k = 3 ∧ (tyAt ts b).m = true)
open Classical in
noncomputable def copB (ts : List TyS) (i : Int) : Bool := decide (Cop ts i)
theorem copB_t {ts : List TyS} {i : Int} : copB ts i = true ↔ Cop ts i := by simp [copB]
theorem copB_f {ts : List TyS} {i : Int} : copB ts i = false ↔ ¬ Cop ts i := by simp [copB]
theorem cop_iff {ts : List TyS} (hw : wfT ts) {i : Int} (hi : InR ts.length i) : Cop ts i ↔ ¬ ((tyAt ts i).k = 3 ∧ (tyAt ts i).m = true) ∧ ∀ p ∈ (tyAt ts i).ar, Cop ts p := by
  have hd := Dn.F hw
  constructor
  · rintro ⟨_, h⟩
    refine ⟨h i (.refl _), fun p hp => ?_⟩
    have := hd i hi p hp
    exact ⟨⟨this.1, Int.lt_trans this.2 hi.2⟩, fun b hb => h b (.step hp hb)⟩
  · rintro ⟨h1, h2⟩
    refine ⟨hi, fun b hb => ?_⟩
    rcases Rch.iff.1 hb with rfl | ⟨p, hp, h⟩
    · exact h1
    · exact (h2 p hp).2 b h
/-- References have no fields. -/
def rfN (ts : List TyS) : Prop := ∀ t ∈ ts, t.k = 3 → t.ar = []
theorem tyAt_in {ts : List TyS} {a : Int} (h : InR ts.length a) : tyAt ts a ∈ ts := by
  obtain ⟨h', he⟩ := tyAt_get h
  rw [he]; exact List.getElem_mem h'
theorem fold_max {g g' : Int → Int} : ∀ {x : List Int} {k : Int}, (∀ f ∈ x, g f = g' f) → x.foldl (fun k f => max k (g f)) k = x.foldl (fun k f => max k (g' f)) k
  | [], _, _ => rfl
  | a :: x, k, h => by
    rw [List.foldl_cons, List.foldl_cons, h a (by simp)]
    exact fold_max fun f hf => h f (List.mem_cons_of_mem _ hf)
theorem depAt_in {ts : List TyS} {i n : Nat} (hi : i < n) (hn : n ≤ ts.length) : (depL (ts.take n)).getD i 0 = depAt ts i := by
  unfold depAt
  rw [if_pos (show InR ts.length i from ⟨by omega, by omega⟩), List.getD_eq_getElem?_getD, List.getD_eq_getElem?_getD, depL_get hi hn, Int.toNat_natCast]
theorem depAt_by {ts : List TyS} (hw : wfT ts) {a : Int} (ha : InR ts.length a) : depAt ts a = (tyAt ts a).ar.foldl (fun k f => max k (depAt ts f)) (if (tyAt ts a).k = 3 then depAt ts (tyAt ts a).e else 0) + 1 := by
  have wa := wfT_at hw ha
  obtain ⟨h', he⟩ := tyAt_get ha
  unfold InR at ha
  obtain ⟨i, rfl⟩ : ∃ i : Nat, a = i := ⟨a.toNat, by omega⟩
  rw [Int.toNat_natCast] at h'
  have he2 : tyAt ts i = ts[i] := he
  rw [← depAt_in (show i < i + 1 by omega) (by omega), depL_take h']
  rw [List.getD_eq_getElem?_getD, List.getElem?_append_right (by rw [depL_len, List.length_take]; omega), depL_len, List.length_take, Nat.min_eq_left (by omega), Nat.sub_self]
  simp only [List.getElem?_cons_zero, Option.getD_some]
  rw [he2] at wa ⊢
  congr 1
  unfold kidM
  have h1 : (if ts[i].k = 3 then (depL (ts.take i)).getD ts[i].e.toNat 0 else 0) = (if ts[i].k = 3 then depAt ts ts[i].e else 0) := by
    by_cases h3 : ts[i].k = 3
    · rw [if_pos h3, if_pos h3]
      have := wa.1 h3
      rw [depAt_in (by omega) (by omega)]
      congr 1; omega
    · rw [if_neg h3, if_neg h3]
  rw [h1]
  exact fold_max (g := fun f => (depL (ts.take i)).getD f.toNat 0) fun f hf => by
    have := wa.2 f hf
    show (depL (ts.take i)).getD f.toNat 0 = _
    rw [depAt_in (by omega) (by omega)]
    congr 1; omega
theorem depAt_bd {ts : List TyS} (a : Int) : 0 ≤ depAt ts a ∧ depAt ts a ≤ ts.length := by
  unfold depAt
  split
  · have h := depL_bd ts
    exact ⟨getD_ge (fun x hx => by have := h x hx; omega) (Int.le_refl _) _, getD_le (fun x hx => (h x hx).2) (by omega) _⟩
  · omega
theorem depAt_par {ts : List TyS} (hw : wfT ts) (hr : rfN ts) {a : Int} (ha : InR ts.length a) : depAt ts a = (parA (tyAt ts a)).foldl (fun k f => max k (depAt ts f)) 0 + 1 := by
  rw [depAt_by hw ha]
  unfold parA
  by_cases h3 : (tyAt ts a).k = 3
  · rw [if_pos h3, if_pos h3, hr _ (tyAt_in ha) h3]
    have := (depAt_bd (ts := ts) (tyAt ts a).e).1
    simp only [List.foldl_nil, List.foldl_cons]
    omega
  · rw [if_neg h3, if_neg h3]
theorem rfN_of_ok {ts : List TyS} {n : Int} (h : ∀ i (h : i < ts.length), Ok1 (ts.take i) n ts[i]) : rfN ts := fun t ht h3 => by
  obtain ⟨i, hi, rfl⟩ := List.getElem_of_mem ht
  exact (h i hi).fl (by omega)
set_option maxRecDepth 100000
def EqI (l m : List Int) (i : Nat) (s : St) : Prop := s.df = [] ∧ s.fr 0 = .seq 1 (l.map iD) ∧ s.fr 1 = .seq 1 (m.map iD) ∧ s.fr 12 = i64 l.length ∧ s.fr 13 = i64 i ∧ s.H = Heap.none ∧ l.take i = m.take i
theorem equalI_N (l m : List Int) (hl : l.length ≤ 140737488351232) : Does Try.prog 42 [.seq 1 (l.map iD), .seq 1 (m.map iD)] .none fun d _ => d = .val (.bool (decide (l = m))) := by
  have hll : (List.map iD l).length = l.length := List.length_map _
  have hml : (List.map iD m).length = m.length := List.length_map _
  refine does_of _ _ Try.func42 rfl rfl Try.ntmps42 Try.results42 (by simp only [List.length_cons, List.length_nil]; omega) fun w0 Q hret => ?_
  by_cases hlm : l.length = m.length
  case neg =>
    have q : ((l.length : Int) = (m.length : Int)) = False := eq_false (by omega)
    (have fs := And.intro @i64.eq_1 (And.intro hll (And.intro hml q)); (repeat (first | refine hGx _ ?_ | refine hNx _ ?_ | refine W_skip ?_ | refine W_exit ?_ | refine W_ret ?_ | refine W_label ?_ | refine W_scope ?_ | refine W_block ?_ | refine W_seq ?_ | ((first | refine tS fun N hNx => ?_ | refine WL_gE rfl rfl (by kernel_rfl) (by kernel_rfl) fun G hGx => ?_ | refine vcOpsS_sound (by kernel_rfl) ?_ | refine W_ifE fun A B hAx hBx => ?_); refine evT ?_; (first | refine hGx _ ?_ | refine hNx _ ?_ | refine hAx ?_ | refine hBx ?_ | skip)))); (try clear fs))
    (first | (show Q .ret _) | (show Q .normal _) | skip); refine hret _ _ (by first | exact .inr rfl | exact .inl rfl) (by first | rfl | assumption | (simp only [put_df, withH_df]; assumption)) ?_; have fs := @i64.eq_1; refine evT ?_; clear fs
    exact ⟨_, Heap.le_refl _, by rw [decide_eq_false fun e => hlm (by rw [e])]⟩
  have q : ((l.length : Int) = (m.length : Int)) = True := eq_true (by omega)
  have hmm : (m.length : Int) = (l.length : Int) := by omega
  (have fs := And.intro @i64.eq_1 (And.intro hll (And.intro hml q)); (repeat (first | refine hGx _ ?_ | refine hNx _ ?_ | refine W_skip ?_ | refine W_exit ?_ | refine W_ret ?_ | refine W_label ?_ | refine W_scope ?_ | refine W_block ?_ | refine W_seq ?_ | ((first | refine tS fun N hNx => ?_ | refine WL_gE rfl rfl (by kernel_rfl) (by kernel_rfl) fun G hGx => ?_ | refine vcOpsS_sound (by kernel_rfl) ?_ | refine W_ifE fun A B hAx hBx => ?_); refine evT ?_; (first | refine hGx _ ?_ | refine hNx _ ?_ | refine hAx ?_ | refine hBx ?_ | skip)))); (try clear fs))
  refine W_loopN l.length (EqI l m) ⟨rfl, rfl, rfl, rfl, rfl, rfl, by simp⟩ ?_
  rintro i s hi ⟨hdf, f0, f1, f12, f13, hH, htk⟩
  have hx : (i : Int).toNat = i := Int.toNat_natCast _
  have h00 : (0 : Int) ≤ (i : Int) := Int.natCast_nonneg _
  by_cases hil : i < l.length
  case neg =>
    have q1 : ((i : Int) < (l.length : Int)) = False := eq_false (by omega)
    rw [List.take_of_length_le (by omega), List.take_of_length_le (by omega)] at htk
    (have fs := And.intro f12 (And.intro f13 (And.intro @i64.eq_1 q1)); (repeat (first | refine hGx _ ?_ | refine hNx _ ?_ | refine W_skip ?_ | refine W_exit ?_ | refine W_ret ?_ | refine W_label ?_ | refine W_scope ?_ | refine W_block ?_ | refine W_seq ?_ | ((first | refine tS fun N hNx => ?_ | refine WL_gE rfl rfl (by kernel_rfl) (by kernel_rfl) fun G hGx => ?_ | refine vcOpsS_sound (by kernel_rfl) ?_ | refine W_ifE fun A B hAx hBx => ?_); refine evT ?_; (first | refine hGx _ ?_ | refine hNx _ ?_ | refine hAx ?_ | refine hBx ?_ | skip)))); (try clear fs))
    (first | (show Q .ret _) | (show Q .normal _) | skip); refine hret _ _ (by first | exact .inr rfl | exact .inl rfl) (by first | rfl | assumption | (simp only [put_df, withH_df]; assumption)) ?_; have fs := hdf; refine evT ?_; clear fs
    exact ⟨_, Heap.le_refl _, by rw [decide_eq_true htk]⟩
  have q1 : ((i : Int) < (l.length : Int)) = True := eq_true (by omega)
  have him : i < m.length := by omega
  have hgi := get_ints hil
  have hgm := get_ints him
  have w3 : IntKind.i64.wrap ((i : Int) + 1) = ((i + 1 : Nat) : Int) := by rw [wrap_i64_of (by omega)]; omega
  by_cases h2 : l[i] = m[i]
  · have q2 : (l[i] = m[i]) = True := eq_true h2
    (have fs := And.intro f12 (And.intro f13 (And.intro @i64.eq_1 q1)); (repeat (first | refine hGx _ ?_ | refine hNx _ ?_ | refine W_skip ?_ | refine W_exit ?_ | refine W_ret ?_ | refine W_label ?_ | refine W_scope ?_ | refine W_block ?_ | refine W_seq ?_ | ((first | refine tS fun N hNx => ?_ | refine WL_gE rfl rfl (by kernel_rfl) (by kernel_rfl) fun G hGx => ?_ | refine vcOpsS_sound (by kernel_rfl) ?_ | refine W_ifE fun A B hAx hBx => ?_); refine evT ?_; (first | refine hGx _ ?_ | refine hNx _ ?_ | refine hAx ?_ | refine hBx ?_ | skip)))); (try clear fs))
    refine W_drawE (fun _ _ _ _ => False) (by kernel_rfl) (by kernel_rfl) (by kernel_rfl) fun N hNx => ?_; (have fs := And.intro f0 (And.intro f1 (And.intro @i64.eq_1 (And.intro hll (And.intro hml (And.intro hgi (And.intro hgm (And.intro hx (And.intro h00 (And.intro hil (And.intro him q2)))))))))); (repeat ((first | refine vcD_g rfl rfl fun G hGx => ?_ | refine vcDS_to ?_); refine evD ?_; (first | refine hGx _ ?_ | refine hNx _ ?_ | skip))); (try clear fs))
    (have fs := And.intro f13 (And.intro @i64.eq_1 (And.intro w3 q2)); (repeat (first | refine hGx _ ?_ | refine hNx _ ?_ | refine W_skip ?_ | refine W_exit ?_ | refine W_ret ?_ | refine W_label ?_ | refine W_scope ?_ | refine W_block ?_ | refine W_seq ?_ | ((first | refine tS fun N hNx => ?_ | refine WL_gE rfl rfl (by kernel_rfl) (by kernel_rfl) fun G hGx => ?_ | refine vcOpsS_sound (by kernel_rfl) ?_ | refine W_ifE fun A B hAx hBx => ?_); refine evT ?_; (first | refine hGx _ ?_ | refine hNx _ ?_ | refine hAx ?_ | refine hBx ?_ | skip)))); (try clear fs))
    refine ⟨hil, hdf, f0, f1, f12, rfl, hH, ?_⟩
    rw [List.take_succ_eq_append_getElem hil, List.take_succ_eq_append_getElem him, htk, h2]
  · have q2 : (l[i] = m[i]) = False := eq_false h2
    (have fs := And.intro f12 (And.intro f13 (And.intro @i64.eq_1 q1)); (repeat (first | refine hGx _ ?_ | refine hNx _ ?_ | refine W_skip ?_ | refine W_exit ?_ | refine W_ret ?_ | refine W_label ?_ | refine W_scope ?_ | refine W_block ?_ | refine W_seq ?_ | ((first | refine tS fun N hNx => ?_ | refine WL_gE rfl rfl (by kernel_rfl) (by kernel_rfl) fun G hGx => ?_ | refine vcOpsS_sound (by kernel_rfl) ?_ | refine W_ifE fun A B hAx hBx => ?_); refine evT ?_; (first | refine hGx _ ?_ | refine hNx _ ?_ | refine hAx ?_ | refine hBx ?_ | skip)))); (try clear fs))
    refine W_drawE (fun _ _ _ _ => False) (by kernel_rfl) (by kernel_rfl) (by kernel_rfl) fun N hNx => ?_; (have fs := And.intro f0 (And.intro f1 (And.intro @i64.eq_1 (And.intro hll (And.intro hml (And.intro hgi (And.intro hgm (And.intro hx (And.intro h00 (And.intro hil (And.intro him q2)))))))))); (repeat ((first | refine vcD_g rfl rfl fun G hGx => ?_ | refine vcDS_to ?_); refine evD ?_; (first | refine hGx _ ?_ | refine hNx _ ?_ | skip))); (try clear fs))
    (have fs := And.intro f13 (And.intro @i64.eq_1 (And.intro w3 q2)); (repeat (first | refine hGx _ ?_ | refine hNx _ ?_ | refine W_skip ?_ | refine W_exit ?_ | refine W_ret ?_ | refine W_label ?_ | refine W_scope ?_ | refine W_block ?_ | refine W_seq ?_ | ((first | refine tS fun N hNx => ?_ | refine WL_gE rfl rfl (by kernel_rfl) (by kernel_rfl) fun G hGx => ?_ | refine vcOpsS_sound (by kernel_rfl) ?_ | refine W_ifE fun A B hAx hBx => ?_); refine evT ?_; (first | refine hGx _ ?_ | refine hNx _ ?_ | refine hAx ?_ | refine hBx ?_ | skip)))); (try clear fs))
    (first | (show Q .ret _) | (show Q .normal _) | skip); refine hret _ _ (by first | exact .inr rfl | exact .inl rfl) (by first | rfl | assumption | (simp only [put_df, withH_df]; assumption)) ?_; have fs := hdf; refine evT ?_; clear fs
    exact ⟨_, Heap.le_refl _, by rw [decide_eq_false]; rintro rfl; exact h2 rfl⟩
theorem equalI_at (H : Heap) (l m : List Int) (hl : l.length ≤ 140737488351232) : Does Try.prog 42 [.seq 1 (l.map iD), .seq 1 (m.map iD)] H fun d H' => d = .val (.bool (decide (l = m))) ∧ H = H' :=
  pure_D (equalI_N l m hl) rfl (vws2 (vw_refl _ _) (vw_refl _ _))
theorem strict_eq : ∀ {l m : List Int}, l.Pairwise (· < ·) → m.Pairwise (· < ·) → (∀ x, x ∈ l ↔ x ∈ m) → l = m
  | [], [], _, _, _ => rfl
  | [], b :: m, _, _, h => by have := (h b).2 (by simp); simp at this
  | a :: l, [], _, _, h => by have := (h a).1 (by simp); simp at this
  | a :: l, b :: m, h1, h2, h => by
    rw [List.pairwise_cons] at h1 h2
    have hab : a = b := by
      have ha := (h a).1 (by simp)
      have hb := (h b).2 (by simp)
      rcases List.mem_cons.1 ha with e | ha
      · exact e
      rcases List.mem_cons.1 hb with e | hb
      · exact e.symm
      have := h1.1 b hb
      have := h2.1 a ha
      omega
    subst hab
    rw [strict_eq h1.2 h2.2 fun x => ?_]
    constructor
    · intro hx
      have := h1.1 x hx
      rcases List.mem_cons.1 ((h x).1 (List.mem_cons_of_mem _ hx)) with e | h
      · omega
      · exact h
    · intro hx
      have := h2.1 x hx
      rcases List.mem_cons.1 ((h x).2 (List.mem_cons_of_mem _ hx)) with e | h
      · omega
      · exact h
set_option maxHeartbeats 1000000 in
theorem teq_N (a b : TyS) (H : Heap) (hal : a.ar.length ≤ 140737488351232) : Does Try.prog 37 [.agg (tyD a), .agg (tyD b)] H fun d H' => d = .val (.bool (decide (a = b))) ∧ H = H' := by
  refine Does.frz (K := fun d => d = .val (.bool (decide (a = b)))) ?_
  obtain ⟨ak, am, ar, ae, aa⟩ := a
  obtain ⟨bk, bm, br, be, ba⟩ := b
  have hext := tyS_ext (a := ⟨ak, am, ar, ae, aa⟩) (b := ⟨bk, bm, br, be, ba⟩)
  simp only at hext hal
  simp only [tyD]
  have hle := Heap.le_refl H
  refine does_of _ _ Try.func37 rfl rfl Try.ntmps37 Try.results37 (by simp only [List.length_cons, List.length_nil]; omega) fun w0 Q hret => ?_
  (have fs := @i64.eq_1; (repeat (first | refine hGx _ ?_ | refine hNx _ ?_ | refine W_skip ?_ | refine W_exit ?_ | refine W_ret ?_ | refine W_label ?_ | refine W_scope ?_ | refine W_block ?_ | refine W_seq ?_ | ((first | refine tS fun N hNx => ?_ | refine WL_gE rfl rfl (by kernel_rfl) (by kernel_rfl) fun G hGx => ?_ | refine vcOpsS_sound (by kernel_rfl) ?_ | refine W_ifE fun A B hAx hBx => ?_); refine evT ?_; (first | refine hGx _ ?_ | refine hNx _ ?_ | refine hAx ?_ | refine hBx ?_ | skip)))); (try clear fs))
  intro c2 hc2 c3 hc3
  have hne : c2 ≠ c3 := Heap.ne_of (Heap.upd_same _ _ _) hc3
  have hc30 : H c3 = none := (Heap.upd_none.1 hc3).2
  refine hNx _ ?_
  refine W_frzp 2 rfl ((Heap.upd_ne hne).trans (Heap.upd_same _ _ _)) rfl ?_
  refine W_frzp 3 rfl ((Heap.del_ne hne.symm).trans (Heap.upd_same _ _ _)) rfl ?_
  refine W_less H (fun x z hz => ?_) ?_
  · have e1 : x ≠ c2 := fun e => by rw [e, hc2] at hz; cases hz
    have e2 : x ≠ c3 := fun e => by rw [e, hc30] at hz; cases hz
    show ((((H.upd c2 _).upd c3 _).del c2).del c3) x = _
    rw [Heap.del_ne e2, Heap.del_ne e1, Heap.upd_ne e2, Heap.upd_ne e1]
    exact hz
  simp only [St.frzp, List.drop]
  by_cases g1 : ak = bk
  case neg =>
    have q1 : (ak = bk) = False := eq_false g1
    have hres : decide ((⟨ak, am, ar, ae, aa⟩ : TyS) = ⟨bk, bm, br, be, ba⟩) = false := decide_eq_false fun h => g1 (hext.1 h).1
    (have fs := And.intro @i64.eq_1 q1; (repeat (first | refine hGx _ ?_ | refine hNx _ ?_ | refine W_skip ?_ | refine W_exit ?_ | refine W_ret ?_ | refine W_label ?_ | refine W_scope ?_ | refine W_block ?_ | refine W_seq ?_ | ((first | refine tS fun N hNx => ?_ | refine WL_gE rfl rfl (by kernel_rfl) (by kernel_rfl) fun G hGx => ?_ | refine vcOpsS_sound (by kernel_rfl) ?_ | refine W_ifE fun A B hAx hBx => ?_); refine evT ?_; (first | refine hGx _ ?_ | refine hNx _ ?_ | refine hAx ?_ | refine hBx ?_ | skip)))); (try clear fs)); (first | (show Q .ret _) | (show Q .normal _) | skip); refine hret _ _ (by first | exact .inr rfl | exact .inl rfl) (by first | rfl | assumption | (simp only [put_df, withH_df]; assumption)) ?_; have fs := @i64.eq_1; refine evT ?_; clear fs; exact ⟨_, Heap.le_refl _, hle, _, frz_refl hle, by rw [hres]⟩
  have q1 : (ak = bk) = True := eq_true g1
  by_cases g2 : am = bm
  case neg =>
    have q2 : (am = bm) = False := eq_false g2
    have hres : decide ((⟨ak, am, ar, ae, aa⟩ : TyS) = ⟨bk, bm, br, be, ba⟩) = false := decide_eq_false fun h => g2 (hext.1 h).2.1
    (have fs := And.intro @i64.eq_1 (And.intro q1 q2); (repeat (first | refine hGx _ ?_ | refine hNx _ ?_ | refine W_skip ?_ | refine W_exit ?_ | refine W_ret ?_ | refine W_label ?_ | refine W_scope ?_ | refine W_block ?_ | refine W_seq ?_ | ((first | refine tS fun N hNx => ?_ | refine WL_gE rfl rfl (by kernel_rfl) (by kernel_rfl) fun G hGx => ?_ | refine vcOpsS_sound (by kernel_rfl) ?_ | refine W_ifE fun A B hAx hBx => ?_); refine evT ?_; (first | refine hGx _ ?_ | refine hNx _ ?_ | refine hAx ?_ | refine hBx ?_ | skip)))); (try clear fs)); (first | (show Q .ret _) | (show Q .normal _) | skip); refine hret _ _ (by first | exact .inr rfl | exact .inl rfl) (by first | rfl | assumption | (simp only [put_df, withH_df]; assumption)) ?_; have fs := @i64.eq_1; refine evT ?_; clear fs; exact ⟨_, Heap.le_refl _, hle, _, frz_refl hle, by rw [hres]⟩
  have q2 : (am = bm) = True := eq_true g2
  by_cases g3 : ar = br
  case neg =>
    have q3 : (ar = br) = False := eq_false g3
    have hres : decide ((⟨ak, am, ar, ae, aa⟩ : TyS) = ⟨bk, bm, br, be, ba⟩) = false := decide_eq_false fun h => g3 (hext.1 h).2.2.1
    (have fs := And.intro @i64.eq_1 (And.intro q1 (And.intro q2 q3)); (repeat (first | refine hGx _ ?_ | refine hNx _ ?_ | refine W_skip ?_ | refine W_exit ?_ | refine W_ret ?_ | refine W_label ?_ | refine W_scope ?_ | refine W_block ?_ | refine W_seq ?_ | ((first | refine tS fun N hNx => ?_ | refine WL_gE rfl rfl (by kernel_rfl) (by kernel_rfl) fun G hGx => ?_ | refine vcOpsS_sound (by kernel_rfl) ?_ | refine W_ifE fun A B hAx hBx => ?_); refine evT ?_; (first | refine hGx _ ?_ | refine hNx _ ?_ | refine hAx ?_ | refine hBx ?_ | skip)))); (try clear fs)); (first | (show Q .ret _) | (show Q .normal _) | skip); refine hret _ _ (by first | exact .inr rfl | exact .inl rfl) (by first | rfl | assumption | (simp only [put_df, withH_df]; assumption)) ?_; have fs := @i64.eq_1; refine evT ?_; clear fs; exact ⟨_, Heap.le_refl _, hle, _, frz_refl hle, by rw [hres]⟩
  have q3 : (ar = br) = True := eq_true g3
  by_cases g4 : ae = be
  case neg =>
    have q4 : (ae = be) = False := eq_false g4
    have hres : decide ((⟨ak, am, ar, ae, aa⟩ : TyS) = ⟨bk, bm, br, be, ba⟩) = false := decide_eq_false fun h => g4 (hext.1 h).2.2.2.1
    (have fs := And.intro @i64.eq_1 (And.intro q1 (And.intro q2 (And.intro q3 q4))); (repeat (first | refine hGx _ ?_ | refine hNx _ ?_ | refine W_skip ?_ | refine W_exit ?_ | refine W_ret ?_ | refine W_label ?_ | refine W_scope ?_ | refine W_block ?_ | refine W_seq ?_ | ((first | refine tS fun N hNx => ?_ | refine WL_gE rfl rfl (by kernel_rfl) (by kernel_rfl) fun G hGx => ?_ | refine vcOpsS_sound (by kernel_rfl) ?_ | refine W_ifE fun A B hAx hBx => ?_); refine evT ?_; (first | refine hGx _ ?_ | refine hNx _ ?_ | refine hAx ?_ | refine hBx ?_ | skip)))); (try clear fs)); (first | (show Q .ret _) | (show Q .normal _) | skip); refine hret _ _ (by first | exact .inr rfl | exact .inl rfl) (by first | rfl | assumption | (simp only [put_df, withH_df]; assumption)) ?_; have fs := @i64.eq_1; refine evT ?_; clear fs; exact ⟨_, Heap.le_refl _, hle, _, frz_refl hle, by rw [hres]⟩
  have q4 : (ae = be) = True := eq_true g4
  have hres : decide ((⟨ak, am, ar, ae, aa⟩ : TyS) = ⟨bk, bm, br, be, ba⟩) = decide (aa = ba) := by
    have : ((⟨ak, am, ar, ae, aa⟩ : TyS) = ⟨bk, bm, br, be, ba⟩) = (aa = ba) := propext ⟨fun h => (hext.1 h).2.2.2.2, fun h => hext.2 ⟨g1, g2, g3, g4, h⟩⟩
    simp only [this]
  (have fs := And.intro @i64.eq_1 (And.intro q1 (And.intro q2 (And.intro q3 q4))); (repeat (first | refine hGx _ ?_ | refine hNx _ ?_ | refine W_skip ?_ | refine W_exit ?_ | refine W_ret ?_ | refine W_label ?_ | refine W_scope ?_ | refine W_block ?_ | refine W_seq ?_ | ((first | refine tS fun N hNx => ?_ | refine WL_gE rfl rfl (by kernel_rfl) (by kernel_rfl) fun G hGx => ?_ | refine vcOpsS_sound (by kernel_rfl) ?_ | refine W_ifE fun A B hAx hBx => ?_); refine evT ?_; (first | refine hGx _ ?_ | refine hNx _ ?_ | refine hAx ?_ | refine hBx ?_ | skip)))); (try clear fs))
  refine (equalI_at H aa ba hal).mono ?_
  rintro d _ ⟨rfl, rfl⟩
  (have fs := @i64.eq_1; (repeat (first | refine hGx _ ?_ | refine hNx _ ?_ | refine W_skip ?_ | refine W_exit ?_ | refine W_ret ?_ | refine W_label ?_ | refine W_scope ?_ | refine W_block ?_ | refine W_seq ?_ | ((first | refine tS fun N hNx => ?_ | refine WL_gE rfl rfl (by kernel_rfl) (by kernel_rfl) fun G hGx => ?_ | refine vcOpsS_sound (by kernel_rfl) ?_ | refine W_ifE fun A B hAx hBx => ?_); refine evT ?_; (first | refine hGx _ ?_ | refine hNx _ ?_ | refine hAx ?_ | refine hBx ?_ | skip)))); (try clear fs))
  (first | (show Q .ret _) | (show Q .normal _) | skip); refine hret _ _ (by first | exact .inr rfl | exact .inl rfl) (by first | rfl | assumption | (simp only [put_df, withH_df]; assumption)) ?_; have fs := @i64.eq_1; refine evT ?_; clear fs
  exact ⟨_, Heap.le_refl _, hle, _, frz_refl hle, by rw [hres]⟩
theorem fnd1_N (x t : TyS) (H : Heap) (hal : x.ar.length ≤ 140737488351232) : Does Try.prog 80 [.agg (tyD x), .rp (tyD t)] H fun d H' => d = .val (.bool (decide (x = t))) ∧ H = H' := by
  refine Does.frz (K := fun d => d = .val (.bool (decide (x = t)))) ?_
  have hq := teq_N x t H hal
  obtain ⟨xk, xm, xr, xe, xa⟩ := x
  obtain ⟨tk, tm, tr, te, ta⟩ := t
  simp only [tyD] at hq ⊢
  have hle := Heap.le_refl H
  refine does_of _ _ Try.func80 rfl rfl Try.ntmps80 Try.results80 (by simp only [List.length_cons, List.length_nil]; omega) fun w0 Q hret => ?_
  (have fs := @i64.eq_1; (repeat (first | refine hGx _ ?_ | refine hNx _ ?_ | refine W_skip ?_ | refine W_exit ?_ | refine W_ret ?_ | refine W_label ?_ | refine W_scope ?_ | refine W_block ?_ | refine W_seq ?_ | ((first | refine tS fun N hNx => ?_ | refine WL_gE rfl rfl (by kernel_rfl) (by kernel_rfl) fun G hGx => ?_ | refine vcOpsS_sound (by kernel_rfl) ?_ | refine W_ifE fun A B hAx hBx => ?_); refine evT ?_; (first | refine hGx _ ?_ | refine hNx _ ?_ | refine hAx ?_ | refine hBx ?_ | skip)))); (try clear fs))
  intro c2 hc2
  refine hNx _ ?_
  refine W_frzp 2 rfl (Heap.upd_same _ _ _) rfl ?_; simp only [St.frzp, put_H, wdf_H, withH_H, withH_put, wdf_withH, withH_withH, init_H, init_withH, Heap.del_upd_same, Heap.del_none hc2, withH_self]
  (have fs := @i64.eq_1; (repeat (first | refine hGx _ ?_ | refine hNx _ ?_ | refine W_skip ?_ | refine W_exit ?_ | refine W_ret ?_ | refine W_label ?_ | refine W_scope ?_ | refine W_block ?_ | refine W_seq ?_ | ((first | refine tS fun N hNx => ?_ | refine WL_gE rfl rfl (by kernel_rfl) (by kernel_rfl) fun G hGx => ?_ | refine vcOpsS_sound (by kernel_rfl) ?_ | refine W_ifE fun A B hAx hBx => ?_); refine evT ?_; (first | refine hGx _ ?_ | refine hNx _ ?_ | refine hAx ?_ | refine hBx ?_ | skip)))); (try clear fs))
  refine hq.mono ?_
  rintro d _ ⟨rfl, rfl⟩
  (have fs := @i64.eq_1; (repeat (first | refine hGx _ ?_ | refine hNx _ ?_ | refine W_skip ?_ | refine W_exit ?_ | refine W_ret ?_ | refine W_label ?_ | refine W_scope ?_ | refine W_block ?_ | refine W_seq ?_ | ((first | refine tS fun N hNx => ?_ | refine WL_gE rfl rfl (by kernel_rfl) (by kernel_rfl) fun G hGx => ?_ | refine vcOpsS_sound (by kernel_rfl) ?_ | refine W_ifE fun A B hAx hBx => ?_); refine evT ?_; (first | refine hGx _ ?_ | refine hNx _ ?_ | refine hAx ?_ | refine hBx ?_ | skip)))); (try clear fs))
  (first | (show Q .ret _) | (show Q .normal _) | skip); refine hret _ _ (by first | exact .inr rfl | exact .inl rfl) (by first | rfl | assumption | (simp only [put_df, withH_df]; assumption)) ?_; have fs := @i64.eq_1; refine evT ?_; clear fs
  exact ⟨_, Heap.le_refl _, hle, _, frz_refl hle, rfl⟩
theorem idxT_N (ts : List TyS) (t : TyS) (H : Heap) (htl : ts.length ≤ 140737488351232) (har : ∀ u ∈ ts, u.ar.length ≤ 140737488351232) : Does Try.prog 79 [.seq 5 (ts.map tyD), .fn 80 [.rp (tyD t)]] H fun d H' => d = i64 (fndI t ts 0) ∧ H = H' := by
  refine Does.frz (K := fun d => d = i64 (fndI t ts 0)) ?_
  have htyl : (List.map tyD ts).length = ts.length := List.length_map _
  have hle := Heap.le_refl H
  refine does_of _ _ Try.func79 rfl rfl Try.ntmps79 Try.results79 (by simp only [List.length_cons, List.length_nil]; omega) fun w0 Q hret => ?_
  (have fs := And.intro @i64.eq_1 htyl; (repeat (first | refine hGx _ ?_ | refine hNx _ ?_ | refine W_skip ?_ | refine W_exit ?_ | refine W_ret ?_ | refine W_label ?_ | refine W_scope ?_ | refine W_block ?_ | refine W_seq ?_ | ((first | refine tS fun N hNx => ?_ | refine WL_gE rfl rfl (by kernel_rfl) (by kernel_rfl) fun G hGx => ?_ | refine vcOpsS_sound (by kernel_rfl) ?_ | refine W_ifE fun A B hAx hBx => ?_); refine evT ?_; (first | refine hGx _ ?_ | refine hNx _ ?_ | refine hAx ?_ | refine hBx ?_ | skip)))); (try clear fs))
  refine W_loopN ts.length (fun i s => s.df = [] ∧ s.fr 0 = .seq 5 (ts.map tyD) ∧ s.fr 1 = .fn 80 [.rp (tyD t)] ∧ s.fr 7 = i64 ts.length ∧ s.fr 8 = i64 i ∧ s.H = H ∧ fndI t ts 0 = fndI t (ts.drop i) i) ⟨rfl, rfl, rfl, rfl, rfl, rfl, rfl⟩ ?_
  rintro i s hi ⟨hdf, f0, f1, f7, f8, hH, hf⟩
  have hx : (i : Int).toNat = i := Int.toNat_natCast _
  have h00 : (0 : Int) ≤ (i : Int) := Int.natCast_nonneg _
  have hleS : H.le s.H := by rw [hH]; exact Heap.le_refl _
  by_cases hil : i < ts.length
  case neg =>
    have q6 : ((i : Int) < (ts.length : Int)) = False := eq_false (by omega)
    rw [List.drop_eq_nil_of_le (by omega)] at hf
    (have fs := And.intro f7 (And.intro f8 (And.intro @i64.eq_1 q6)); (repeat (first | refine hGx _ ?_ | refine hNx _ ?_ | refine W_skip ?_ | refine W_exit ?_ | refine W_ret ?_ | refine W_label ?_ | refine W_scope ?_ | refine W_block ?_ | refine W_seq ?_ | ((first | refine tS fun N hNx => ?_ | refine WL_gE rfl rfl (by kernel_rfl) (by kernel_rfl) fun G hGx => ?_ | refine vcOpsS_sound (by kernel_rfl) ?_ | refine W_ifE fun A B hAx hBx => ?_); refine evT ?_; (first | refine hGx _ ?_ | refine hNx _ ?_ | refine hAx ?_ | refine hBx ?_ | skip)))); (try clear fs))
    (first | (show Q .ret _) | (show Q .normal _) | skip); refine hret _ _ (by first | exact .inr rfl | exact .inl rfl) (by first | rfl | assumption | (simp only [put_df, withH_df]; assumption)) ?_; have fs := hdf; refine evT ?_; clear fs
    exact ⟨_, Heap.le_refl _, hleS, _, frz_refl hleS, by rw [hf]; rfl⟩
  have q6 : ((i : Int) < (ts.length : Int)) = True := eq_true (by omega)
  have w3 : IntKind.i64.wrap ((i : Int) + 1) = ((i + 1 : Nat) : Int) := by rw [wrap_i64_of (by omega)]; omega
  have hui := har ts[i] (List.getElem_mem hil)
  have hgi : (ts.map tyD)[i]? = some (tyD ts[i]) := by rw [List.getElem?_map, List.getElem?_eq_getElem hil]; rfl
  rw [List.drop_eq_getElem_cons hil, fndI] at hf
  obtain ⟨u, hu⟩ : ∃ u, u = ts[i] := ⟨_, rfl⟩
  rw [← hu] at hgi hf hui
  have hq := fnd1_N u t s.H hui
  obtain ⟨uk, um, ur, ue, ua⟩ := u
  obtain ⟨tk, tm, tr, te, ta⟩ := t
  simp only [tyD] at hgi f1 hq
  (have fs := And.intro f0 (And.intro f1 (And.intro f7 (And.intro f8 (And.intro @i64.eq_1 (And.intro htyl (And.intro q6 (And.intro hgi (And.intro hx (And.intro h00 hil))))))))); (repeat (first | refine hGx _ ?_ | refine hNx _ ?_ | refine W_skip ?_ | refine W_exit ?_ | refine W_ret ?_ | refine W_label ?_ | refine W_scope ?_ | refine W_block ?_ | refine W_seq ?_ | ((first | refine tS fun N hNx => ?_ | refine WL_gE rfl rfl (by kernel_rfl) (by kernel_rfl) fun G hGx => ?_ | refine vcOpsS_sound (by kernel_rfl) ?_ | refine W_ifE fun A B hAx hBx => ?_); refine evT ?_; (first | refine hGx _ ?_ | refine hNx _ ?_ | refine hAx ?_ | refine hBx ?_ | skip)))); (try clear fs))
  refine hq.mono ?_
  rintro d _ ⟨rfl, rfl⟩
  by_cases he : (⟨uk, um, ur, ue, ua⟩ : TyS) = ⟨tk, tm, tr, te, ta⟩
  · rw [if_pos he] at hf
    rw [decide_eq_true he]
    (have fs := And.intro f8 @i64.eq_1; (repeat (first | refine hGx _ ?_ | refine hNx _ ?_ | refine W_skip ?_ | refine W_exit ?_ | refine W_ret ?_ | refine W_label ?_ | refine W_scope ?_ | refine W_block ?_ | refine W_seq ?_ | ((first | refine tS fun N hNx => ?_ | refine WL_gE rfl rfl (by kernel_rfl) (by kernel_rfl) fun G hGx => ?_ | refine vcOpsS_sound (by kernel_rfl) ?_ | refine W_ifE fun A B hAx hBx => ?_); refine evT ?_; (first | refine hGx _ ?_ | refine hNx _ ?_ | refine hAx ?_ | refine hBx ?_ | skip)))); (try clear fs))
    (first | (show Q .ret _) | (show Q .normal _) | skip); refine hret _ _ (by first | exact .inr rfl | exact .inl rfl) (by first | rfl | assumption | (simp only [put_df, withH_df]; assumption)) ?_; have fs := hdf; refine evT ?_; clear fs
    exact ⟨_, Heap.le_refl _, hleS, _, frz_refl hleS, by rw [hf]; rfl⟩
  · rw [if_neg he] at hf
    rw [decide_eq_false he]
    (have fs := And.intro f8 (And.intro @i64.eq_1 w3); (repeat (first | refine hGx _ ?_ | refine hNx _ ?_ | refine W_skip ?_ | refine W_exit ?_ | refine W_ret ?_ | refine W_label ?_ | refine W_scope ?_ | refine W_block ?_ | refine W_seq ?_ | ((first | refine tS fun N hNx => ?_ | refine WL_gE rfl rfl (by kernel_rfl) (by kernel_rfl) fun G hGx => ?_ | refine vcOpsS_sound (by kernel_rfl) ?_ | refine W_ifE fun A B hAx hBx => ?_); refine evT ?_; (first | refine hGx _ ?_ | refine hNx _ ?_ | refine hAx ?_ | refine hBx ?_ | skip)))); (try clear fs))
    exact ⟨hil, hdf, f0, f1, f7, rfl, hH, hf⟩
theorem find_N (ts : List TyS) (t : TyS) (H : Heap) (htl : ts.length ≤ 140737488351232) (har : ∀ u ∈ ts, u.ar.length ≤ 140737488351232) : Does Try.prog 35 [.seq 5 (ts.map tyD), .agg (tyD t)] H fun d H' => d = .tup [i64 (max (fndI t ts 0) 0), .val (.bool (decide (t ∈ ts)))] ∧ H = H' := by
  refine Does.frz (K := fun d => d = .tup [i64 (max (fndI t ts 0) 0), .val (.bool (decide (t ∈ ts)))]) ?_
  have hq := idxT_N ts t H htl har
  have hfl := fndI_iff (t := t) (l := ts)
  obtain ⟨r, hr⟩ : ∃ r, r = fndI t ts 0 := ⟨_, rfl⟩
  rw [← hr] at hq hfl ⊢
  obtain ⟨tk, tm, tr, te, ta⟩ := t
  simp only [tyD] at hq ⊢
  have hle := Heap.le_refl H
  refine does_of _ _ Try.func35 rfl rfl Try.ntmps35 Try.results35 (by simp only [List.length_cons, List.length_nil]; omega) fun w0 Q hret => ?_
  (have fs := @i64.eq_1; (repeat (first | refine hGx _ ?_ | refine hNx _ ?_ | refine W_skip ?_ | refine W_exit ?_ | refine W_ret ?_ | refine W_label ?_ | refine W_scope ?_ | refine W_block ?_ | refine W_seq ?_ | ((first | refine tS fun N hNx => ?_ | refine WL_gE rfl rfl (by kernel_rfl) (by kernel_rfl) fun G hGx => ?_ | refine vcOpsS_sound (by kernel_rfl) ?_ | refine W_ifE fun A B hAx hBx => ?_); refine evT ?_; (first | refine hGx _ ?_ | refine hNx _ ?_ | refine hAx ?_ | refine hBx ?_ | skip)))); (try clear fs))
  intro c2 hc2
  refine hNx _ ?_
  refine W_frzp 3 rfl (Heap.upd_same _ _ _) rfl ?_; simp only [St.frzp, put_H, wdf_H, withH_H, withH_put, wdf_withH, withH_withH, init_H, init_withH, Heap.del_upd_same, Heap.del_none hc2, withH_self]
  (have fs := @i64.eq_1; (repeat (first | refine hGx _ ?_ | refine hNx _ ?_ | refine W_skip ?_ | refine W_exit ?_ | refine W_ret ?_ | refine W_label ?_ | refine W_scope ?_ | refine W_block ?_ | refine W_seq ?_ | ((first | refine tS fun N hNx => ?_ | refine WL_gE rfl rfl (by kernel_rfl) (by kernel_rfl) fun G hGx => ?_ | refine vcOpsS_sound (by kernel_rfl) ?_ | refine W_ifE fun A B hAx hBx => ?_); refine evT ?_; (first | refine hGx _ ?_ | refine hNx _ ?_ | refine hAx ?_ | refine hBx ?_ | skip)))); (try clear fs))
  refine hq.mono ?_
  rintro d _ ⟨rfl, rfl⟩
  by_cases h0 : 0 ≤ r
  · have q0 : (0 ≤ r) = True := eq_true h0
    (have fs := And.intro @i64.eq_1 q0; (repeat (first | refine hGx _ ?_ | refine hNx _ ?_ | refine W_skip ?_ | refine W_exit ?_ | refine W_ret ?_ | refine W_label ?_ | refine W_scope ?_ | refine W_block ?_ | refine W_seq ?_ | ((first | refine tS fun N hNx => ?_ | refine WL_gE rfl rfl (by kernel_rfl) (by kernel_rfl) fun G hGx => ?_ | refine vcOpsS_sound (by kernel_rfl) ?_ | refine W_ifE fun A B hAx hBx => ?_); refine evT ?_; (first | refine hGx _ ?_ | refine hNx _ ?_ | refine hAx ?_ | refine hBx ?_ | skip)))); (try clear fs))
    (first | (show Q .ret _) | (show Q .normal _) | skip); refine hret _ _ (by first | exact .inr rfl | exact .inl rfl) (by first | rfl | assumption | (simp only [put_df, withH_df]; assumption)) ?_; have fs := @i64.eq_1; refine evT ?_; clear fs
    exact ⟨_, Heap.le_refl _, hle, _, frz_refl hle, by rw [decide_eq_true (hfl.1 h0)]⟩
  · have q0 : (0 ≤ r) = False := eq_false h0
    (have fs := And.intro @i64.eq_1 q0; (repeat (first | refine hGx _ ?_ | refine hNx _ ?_ | refine W_skip ?_ | refine W_exit ?_ | refine W_ret ?_ | refine W_label ?_ | refine W_scope ?_ | refine W_block ?_ | refine W_seq ?_ | ((first | refine tS fun N hNx => ?_ | refine WL_gE rfl rfl (by kernel_rfl) (by kernel_rfl) fun G hGx => ?_ | refine vcOpsS_sound (by kernel_rfl) ?_ | refine W_ifE fun A B hAx hBx => ?_); refine evT ?_; (first | refine hGx _ ?_ | refine hNx _ ?_ | refine hAx ?_ | refine hBx ?_ | skip)))); (try clear fs))
    (first | (show Q .ret _) | (show Q .normal _) | skip); refine hret _ _ (by first | exact .inr rfl | exact .inl rfl) (by first | rfl | assumption | (simp only [put_df, withH_df]; assumption)) ?_; have fs := @i64.eq_1; refine evT ?_; clear fs
    exact ⟨_, Heap.le_refl _, hle, _, frz_refl hle, by rw [decide_eq_false fun h => h0 (hfl.2 h)]⟩
theorem parts_N (t : TyS) (H : Heap) : Does Try.prog 83 [.agg (tyD t)] H fun d H' => d = .seq 1 ((parA t).map iD) ∧ H = H' := by
  refine Does.frz (K := fun d => d = .seq 1 ((parA t).map iD)) ?_
  obtain ⟨tk, tm, tr, te, ta⟩ := t
  simp only [tyD, parA]
  have hle := Heap.le_refl H
  refine does_of _ _ Try.func83 rfl rfl Try.ntmps83 Try.results83 (by simp only [List.length_cons, List.length_nil]; omega) fun w0 Q hret => ?_
  (have fs := @i64.eq_1; (repeat (first | refine hGx _ ?_ | refine hNx _ ?_ | refine W_skip ?_ | refine W_exit ?_ | refine W_ret ?_ | refine W_label ?_ | refine W_scope ?_ | refine W_block ?_ | refine W_seq ?_ | ((first | refine tS fun N hNx => ?_ | refine WL_gE rfl rfl (by kernel_rfl) (by kernel_rfl) fun G hGx => ?_ | refine vcOpsS_sound (by kernel_rfl) ?_ | refine W_ifE fun A B hAx hBx => ?_); refine evT ?_; (first | refine hGx _ ?_ | refine hNx _ ?_ | refine hAx ?_ | refine hBx ?_ | skip)))); (try clear fs))
  intro c2 hc2
  refine hNx _ ?_
  refine W_frzp 1 rfl (Heap.upd_same _ _ _) rfl ?_; simp only [St.frzp, put_H, wdf_H, withH_H, withH_put, wdf_withH, withH_withH, init_H, init_withH, Heap.del_upd_same, Heap.del_none hc2, withH_self]
  by_cases h3 : tk = 3
  · have q3 : (tk = 3) = True := eq_true h3
    (have fs := And.intro @i64.eq_1 q3; (repeat (first | refine hGx _ ?_ | refine hNx _ ?_ | refine W_skip ?_ | refine W_exit ?_ | refine W_ret ?_ | refine W_label ?_ | refine W_scope ?_ | refine W_block ?_ | refine W_seq ?_ | ((first | refine tS fun N hNx => ?_ | refine WL_gE rfl rfl (by kernel_rfl) (by kernel_rfl) fun G hGx => ?_ | refine vcOpsS_sound (by kernel_rfl) ?_ | refine W_ifE fun A B hAx hBx => ?_); refine evT ?_; (first | refine hGx _ ?_ | refine hNx _ ?_ | refine hAx ?_ | refine hBx ?_ | skip)))); (try clear fs))
    (first | (show Q .ret _) | (show Q .normal _) | skip); refine hret _ _ (by first | exact .inr rfl | exact .inl rfl) (by first | rfl | assumption | (simp only [put_df, withH_df]; assumption)) ?_; have fs := @i64.eq_1; refine evT ?_; clear fs
    exact ⟨_, Heap.le_refl _, hle, _, frz_refl hle, by rw [if_pos h3]; rfl⟩
  · have q3 : (tk = 3) = False := eq_false h3
    (have fs := And.intro @i64.eq_1 q3; (repeat (first | refine hGx _ ?_ | refine hNx _ ?_ | refine W_skip ?_ | refine W_exit ?_ | refine W_ret ?_ | refine W_label ?_ | refine W_scope ?_ | refine W_block ?_ | refine W_seq ?_ | ((first | refine tS fun N hNx => ?_ | refine WL_gE rfl rfl (by kernel_rfl) (by kernel_rfl) fun G hGx => ?_ | refine vcOpsS_sound (by kernel_rfl) ?_ | refine W_ifE fun A B hAx hBx => ?_); refine evT ?_; (first | refine hGx _ ?_ | refine hNx _ ?_ | refine hAx ?_ | refine hBx ?_ | skip)))); (try clear fs))
    (first | (show Q .ret _) | (show Q .normal _) | skip); refine hret _ _ (by first | exact .inr rfl | exact .inl rfl) (by first | rfl | assumption | (simp only [put_df, withH_df]; assumption)) ?_; have fs := @i64.eq_1; refine evT ?_; clear fs
    exact ⟨_, Heap.le_refl _, hle, _, frz_refl hle, by rw [if_neg h3]⟩
end Go.Proofs.Ytbcghjcakincoaa
