/- Lemmas and contracts of functions, several texts in one: U1 U2 US HU. -/
import Derived.Test.YtgfhgeelfaalmaaGreatDoorK07
import Derived.Test.YtgfhgeelfaalmaaGreatDoorK11
import Derived.Test.YtgfhgeelfaalmaaGreatDoorK05
import Derived.Test.YtgfhgeelfaalmaaGreatDoorK06
/- What a type consists of: the regions that it mentions, whether its values may be copied; in plain Lean. -/
namespace Go.Proofs.YtgfhgeelfaalmaaGreatDoor
open Go.RowKit
set_option linter.unusedVariables false
set_option linter.unusedSimpArgs false
/-- The types that a type refers to. -/
def parA (t : TyS) : List Int := if t.k = 3 then [t.e] else t.ar
def parF (t : TyS) : List Int := t.ar
/-- What is reached from a type. -/
inductive Rch (par : TyS → List Int) (ts : List TyS) : Int → Int → Prop
  | refl (a : Int) : Rch par ts a a
  | step {a p b : Int} (h : p ∈ par (tyAt ts a)) (h2 : Rch par ts p b) : Rch par ts a b
theorem Rch.iff {par : TyS → List Int} {ts : List TyS} {a b : Int} : Rch par ts a b ↔ a = b ∨ ∃ p ∈ par (tyAt ts a), Rch par ts p b := by
  constructor
  · intro h
    cases h with
    | refl => exact .inl rfl
    | step h h2 => exact .inr ⟨_, h, h2⟩
  · rintro (rfl | ⟨p, hp, h⟩)
    · exact .refl _
    · exact .step hp h
theorem Rch.trans {par : TyS → List Int} {ts : List TyS} {a b c : Int} (h : Rch par ts a b) : Rch par ts b c → Rch par ts a c := by
  induction h with
  | refl => exact id
  | step h _ ih => exact fun h3 => .step h (ih h3)
/-- Parts lie before. -/
def Dn (par : TyS → List Int) (ts : List TyS) : Prop := ∀ a, InR ts.length a → ∀ p ∈ par (tyAt ts a), 0 ≤ p ∧ p < a
theorem Dn.A {ts : List TyS} (hw : wfT ts) : Dn parA ts := fun a ha p hp => by
  have := wfT_at hw ha
  unfold parA at hp
  split at hp
  · rename_i h3
    rw [List.mem_singleton] at hp
    rw [hp]
    exact this.1 h3
  · exact this.2 p hp
theorem Dn.F {ts : List TyS} (hw : wfT ts) : Dn parF ts := fun a ha p hp => (wfT_at hw ha).2 p hp
theorem Rch.le {par : TyS → List Int} {ts : List TyS} (hd : Dn par ts) {a b : Int} (h : Rch par ts a b) : InR ts.length a → 0 ≤ b ∧ b ≤ a := by
  induction h with
  | refl => exact fun ha => ⟨ha.1, Int.le_refl _⟩
  | step hp _ ih =>
    intro ha
    have h1 := hd _ ha _ hp
    have h2 := ih ⟨h1.1, Int.lt_trans h1.2 ha.2⟩
    exact ⟨h2.1, by omega⟩
/-- A type mentions a region. -/
def Ment (ts : List TyS) (i r : Int) : Prop := InR ts.length i ∧ ∃ b, Rch parA ts i b ∧ (tyAt ts b).k = 3 ∧ (tyAt ts b).r = r
open Classical in
noncomputable def mentB (ts : List TyS) (i r : Int) : Bool := decide (Ment ts i r)
theorem mentB_t {ts : List TyS} {i r : Int} : mentB ts i r = true ↔ Ment ts i r := by simp [mentB]
theorem mentB_f {ts : List TyS} {i r : Int} : mentB ts i r = false ↔ ¬ Ment ts i r := by simp [mentB]
theorem ment_iff {ts : List TyS} (hw : wfT ts) {i r : Int} (hi : InR ts.length i) : Ment ts i r ↔ ((tyAt ts i).k = 3 ∧ (tyAt ts i).r = r) ∨ ∃ p ∈ parA (tyAt ts i), Ment ts p r := by
  have hd := Dn.A hw
  constructor
  · rintro ⟨_, b, hb, h3, hr⟩
    rcases Rch.iff.1 hb with rfl | ⟨p, hp, h⟩
    · exact .inl ⟨h3, hr⟩
    · have := hd i hi p hp
      exact .inr ⟨p, hp, ⟨this.1, Int.lt_trans this.2 hi.2⟩, b, h, h3, hr⟩
  · rintro (⟨h3, hr⟩ | ⟨p, hp, _, b, h, h3, hr⟩)
    · exact ⟨hi, i, .refl _, h3, hr⟩
    · exact ⟨hi, b, .step hp h, h3, hr⟩
/-- The regions that a type mentions, in order. -/
noncomputable def regL (ts : List TyS) (i : Int) : List Int := ((List.range 1000000).map Int.ofNat).filter fun r => mentB ts i r
theorem regL_strict (ts : List TyS) (i : Int) : (regL ts i).Pairwise (· < ·) := by
  refine List.Pairwise.filter _ ?_
  rw [List.pairwise_map]
  exact List.pairwise_lt_range.imp fun h => by show (_ : Int) < _; simp only [Int.ofNat_eq_natCast]; omega
theorem regL_mem {ts : List TyS} {i r : Int} : r ∈ regL ts i ↔ InR 1000000 r ∧ Ment ts i r := by
  unfold regL
  rw [List.mem_filter, List.mem_map, mentB_t]
  constructor
  · rintro ⟨⟨k, hk, rfl⟩, h⟩
    rw [List.mem_range] at hk
    exact ⟨⟨Int.natCast_nonneg _, by simp only [Int.ofNat_eq_natCast]; omega⟩, h⟩
  · rintro ⟨h1, h2⟩
    unfold InR at h1
    exact ⟨⟨r.toNat, by rw [List.mem_range]; omega, by simp only [Int.ofNat_eq_natCast]; omega⟩, h2⟩
/-- The values of a type may be copied. -/
def Cop (ts : List TyS) (i : Int) : Prop := InR ts.length i ∧ ∀ b, Rch parF ts i b → ¬ ((tyAt ts b).k = 3 ∧ (tyAt ts b).m = true)
open Classical in
noncomputable def copB (ts : List TyS) (i : Int) : Bool := decide (Cop ts i)
theorem copB_t {ts : List TyS} {i : Int} : copB ts i = true ↔ Cop ts i := by simp [copB]
theorem copB_f {ts : List TyS} {i : Int} : copB ts i = false ↔ ¬ Cop ts i := by simp [copB]
theorem cop_iff {ts : List TyS} (hw : wfT ts) {i : Int} (hi : InR ts.length i) : Cop ts i ↔ ¬ ((tyAt ts i).k = 3 ∧ (tyAt ts i).m = true) ∧ ∀ p ∈ (tyAt ts i).ar, Cop ts p := by
  have hd := Dn.F hw
  constructor
  · rintro ⟨_, h⟩
    refine ⟨h i (.refl _), fun p hp => ?_⟩
    have := hd i hi p hp
    exact ⟨⟨this.1, Int.lt_trans this.2 hi.2⟩, fun b hb => h b (.step hp hb)⟩
  · rintro ⟨h1, h2⟩
    refine ⟨hi, fun b hb => ?_⟩
    rcases Rch.iff.1 hb with rfl | ⟨p, hp, h⟩
    · exact h1
    · exact (h2 p hp).2 b h
/-- References have no fields. -/
def rfN (ts : List TyS) : Prop := ∀ t ∈ ts, t.k = 3 → t.ar = []
theorem tyAt_in {ts : List TyS} {a : Int} (h : InR ts.length a) : tyAt ts a ∈ ts := by
  obtain ⟨h', he⟩ := tyAt_get h
  rw [he]; exact List.getElem_mem h'
theorem fold_max {g g' : Int → Int} : ∀ {x : List Int} {k : Int}, (∀ f ∈ x, g f = g' f) → x.foldl (fun k f => max k (g f)) k = x.foldl (fun k f => max k (g' f)) k
  | [], _, _ => rfl
  | a :: x, k, h => by
    rw [List.foldl_cons, List.foldl_cons, h a (by simp)]
    exact fold_max fun f hf => h f (List.mem_cons_of_mem _ hf)
theorem depAt_in {ts : List TyS} {i n : Nat} (hi : i < n) (hn : n ≤ ts.length) : (depL (ts.take n)).getD i 0 = depAt ts i := by
  unfold depAt
  rw [if_pos (show InR ts.length i from ⟨by omega, by omega⟩), List.getD_eq_getElem?_getD, List.getD_eq_getElem?_getD, depL_get hi hn, Int.toNat_natCast]
theorem depAt_by {ts : List TyS} (hw : wfT ts) {a : Int} (ha : InR ts.length a) : depAt ts a = (tyAt ts a).ar.foldl (fun k f => max k (depAt ts f)) (if (tyAt ts a).k = 3 then depAt ts (tyAt ts a).e else 0) + 1 := by
  have wa := wfT_at hw ha
  obtain ⟨h', he⟩ := tyAt_get ha
  unfold InR at ha
  obtain ⟨i, rfl⟩ : ∃ i : Nat, a = i := ⟨a.toNat, by omega⟩
  rw [Int.toNat_natCast] at h'
  have he2 : tyAt ts i = ts[i] := he
  rw [← depAt_in (show i < i + 1 by omega) (by omega), depL_take h']
  rw [List.getD_eq_getElem?_getD, List.getElem?_append_right (by rw [depL_len, List.length_take]; omega), depL_len, List.length_take, Nat.min_eq_left (by omega), Nat.sub_self]
  simp only [List.getElem?_cons_zero, Option.getD_some]
  rw [he2] at wa ⊢
  congr 1
  unfold kidM
  have h1 : (if ts[i].k = 3 then (depL (ts.take i)).getD ts[i].e.toNat 0 else 0) = (if ts[i].k = 3 then depAt ts ts[i].e else 0) := by
    by_cases h3 : ts[i].k = 3
    · rw [if_pos h3, if_pos h3]
      have := wa.1 h3
      rw [depAt_in (by omega) (by omega)]
      congr 1; omega
    · rw [if_neg h3, if_neg h3]
  rw [h1]
  exact fold_max (g := fun f => (depL (ts.take i)).getD f.toNat 0) fun f hf => by
    have := wa.2 f hf
    show (depL (ts.take i)).getD f.toNat 0 = _
    rw [depAt_in (by omega) (by omega)]
    congr 1; omega
theorem depAt_bd {ts : List TyS} (a : Int) : 0 ≤ depAt ts a ∧ depAt ts a ≤ ts.length := by
  unfold depAt
  split
  · have h := depL_bd ts
    exact ⟨getD_ge (fun x hx => by have := h x hx; omega) (Int.le_refl _) _, getD_le (fun x hx => (h x hx).2) (by omega) _⟩
  · omega
theorem depAt_par {ts : List TyS} (hw : wfT ts) (hr : rfN ts) {a : Int} (ha : InR ts.length a) : depAt ts a = (parA (tyAt ts a)).foldl (fun k f => max k (depAt ts f)) 0 + 1 := by
  rw [depAt_by hw ha]
  unfold parA
  by_cases h3 : (tyAt ts a).k = 3
  · rw [if_pos h3, if_pos h3, hr _ (tyAt_in ha) h3]
    have := (depAt_bd (ts := ts) (tyAt ts a).e).1
    simp only [List.foldl_nil, List.foldl_cons]
    omega
  · rw [if_neg h3, if_neg h3]
theorem rfN_of_ok {ts : List TyS} {n : Int} (h : ∀ i (h : i < ts.length), Ok1 (ts.take i) n ts[i]) : rfN ts := fun t ht h3 => by
  obtain ⟨i, hi, rfl⟩ := List.getElem_of_mem ht
  exact (h i hi).fl (by omega)
theorem upd_self {H : Heap} {b : Nat} {x : HObj} (h : H b = some x) : H.upd b x = H := by
  funext c
  by_cases e : c = b
  · rw [e, Heap.upd_same, h]
  · rw [Heap.upd_ne e]
def I64' (x : Int) : Prop := -9223372036854775808 ≤ x ∧ x ≤ 9223372036854775807
/-- A set of numbers as a map. -/
def SV (S : List Int) : List (Value × Value) := S.map fun k => (.int .i64 k, .bool true)
def SM (S : List Int) : List (Value × D) := (SV S).map fun p => (p.1, .val p.2)
theorem SM_cons (a : Int) (S : List Int) : SM (a :: S) = (.int .i64 a, .val (.bool true)) :: SM S := rfl
theorem SM_app (S T : List Int) : SM (S ++ T) = SM S ++ SM T := by unfold SM SV; rw [List.map_append, List.map_append]
theorem SM_in {S : List Int} {x : Int} : x ∈ S → mget (SM S) (.int .i64 x) = some (.val (.bool true)) := by
  induction S with
  | nil => intro h; cases h
  | cons a S ih =>
    intro h
    rw [SM_cons]
    by_cases e : a = x
    · subst e; simp [mget]
    · have h2 : x ∈ S := by rcases List.mem_cons.1 h with h | h; exact absurd h.symm e; exact h
      simp only [mget]
      rw [if_neg (by simpa using e)]
      exact ih h2
theorem SM_out {S : List Int} {x : Int} : x ∉ S → mget (SM S) (.int .i64 x) = none := by
  induction S with
  | nil => intro _; rfl
  | cons a S ih =>
    intro h
    rw [SM_cons]
    have e : ¬ a = x := fun e => h (by simp [e])
    simp only [mget]
    rw [if_neg (by simpa using e)]
    exact ih fun h2 => h (List.mem_cons_of_mem _ h2)
theorem SM_set {S : List Int} {x : Int} : x ∉ S → mset (SM S) (.int .i64 x) (.val (.bool true)) = SM (S ++ [x]) := by
  induction S with
  | nil => intro _; rfl
  | cons a S ih =>
    intro h
    rw [List.cons_append, SM_cons, SM_cons]
    have e : ¬ a = x := fun e => h (by simp [e])
    simp only [mset]
    rw [if_neg (by simpa using e), ih fun h2 => h (List.mem_cons_of_mem _ h2)]
theorem SM_ok {S : List Int} {n : Int} (hn : n ≤ 1000000) (h : ∀ x ∈ S, InR n x) {x : Int} (hx : I64' x) : kOK Tryz.prog 3 (SM S) (.int .i64 x) :=
  ⟨Go.Maps.int_keyed Tryz.underlying3, keyOf_i64 Tryz.underlying3 hx, fun p hp => by
    unfold SM SV at hp
    rw [List.map_map, List.mem_map] at hp
    obtain ⟨y, hy, rfl⟩ := hp
    have := h y hy
    exact keyOf_i64 Tryz.underlying3 (by unfold InR at this; omega)⟩
theorem upd_upd (H : Heap) (b : Nat) (x y : HObj) : (H.upd b x).upd b y = H.upd b y := by
  funext c
  by_cases e : c = b
  · rw [e, Heap.upd_same, Heap.upd_same]
  · rw [Heap.upd_ne e, Heap.upd_ne e, Heap.upd_ne e]
end Go.Proofs.YtgfhgeelfaalmaaGreatDoor
