/- Lemmas and contracts of functions, several texts in one: U1 U2 US HU. -/
import Derived.Test.YtgfhgeelfaalmaaGreatDoorK07
import Derived.Test.YtgfhgeelfaalmaaGreatDoorK11
import Derived.Test.YtgfhgeelfaalmaaGreatDoorK05
import Derived.Test.YtgfhgeelfaalmaaGreatDoorK06
namespace Go.Proofs.YtgfhgeelfaalmaaGreatDoor
open Go.RowKit
set_option linter.unusedVariables false
set_option linter.unusedSimpArgs false
def parA (t : TyS) : List Int := if t.k = 3 then [t.e] else t.ar
def parF (t : TyS) : List Int := t.ar
inductive Rch (par : TyS → List Int) (ts : List TyS) : Int → Int → Prop
  | refl (a : Int) : Rch par ts a a
  | step {a p b : Int} (h : p ∈ par (tyAt ts a)) (h2 : Rch par ts p b) : Rch par ts a b
theorem Rch.iff {par : TyS → List Int} {ts : List TyS} {a b : Int} : Rch par ts a b ↔ a = b ∨ ∃ p ∈ par (tyAt ts a), Rch par ts p b := by
  constructor
  · intro h
    cases h with
    | refl => exact .inl rfl
    | step h h2 => exact .inr ⟨_, h, h2⟩
  · rintro (rfl | ⟨p, hp, h⟩)
    · exact .refl _
    · exact .step hp h
theorem Rch.trans {par : TyS → List Int} {ts : List TyS} {a b c : Int} (h : Rch par ts a b) : Rch par ts b c → Rch par ts a c := by
  induction h with
  | refl => exact id
  | step h _ ih => exact fun h3 => .step h (ih h3)
def Dn (par : TyS → List Int) (ts : List TyS) : Prop := ∀ a, InR ts.length a → ∀ p ∈ par (tyAt ts a), 0 ≤ p ∧ p < a
theorem Dn.A {ts : List TyS} (hw : wfT ts) : Dn parA ts := fun a ha p hp => by
  have := wfT_at hw ha
  unfold parA at hp
  split at hp
  · rename_i h3
    rw [List.mem_singleton] at hp
    rw [hp]
    exact this.1 h3
  · exact this.2 p hp
theorem Dn.F {ts : List TyS} (hw : wfT ts) : Dn parF ts := fun a ha p hp => (wfT_at hw ha).2 p hp
theorem Rch.le {par : TyS → List Int} {ts : List TyS} (hd : Dn par ts) {a b : Int} (h : Rch par ts a b) : InR ts.length a → 0 ≤ b ∧ b ≤ a := by
  induction h with
  | refl => exact fun ha => ⟨ha.1, Int.le_refl _⟩
  | step hp _ ih =>
    intro ha
    have h1 := hd _ ha _ hp
    have h2 := ih ⟨h1.1, Int.lt_trans h1.2 ha.2⟩
    exact ⟨h2.1, by omega⟩
def Cop (ts : List TyS) (i : Int) : Prop := InR ts.length i ∧ ∀ b, Rch parF ts i b → ¬ ((tyAt ts b).k = 3 ∧ (tyAt ts b).m = true)
open Classical in
noncomputable def copB (ts : List TyS) (i : Int) : Bool := decide (Cop ts i)
theorem copB_t {ts : List TyS} {i : Int} : copB ts i = true ↔ Cop ts i := by simp [copB]
theorem copB_f {ts : List TyS} {i : Int} : copB ts i = false ↔ ¬ Cop ts i := by simp [copB]
theorem cop_iff {ts : List TyS} (hw : wfT ts) {i : Int} (hi : InR ts.length i) : Cop ts i ↔ ¬ ((tyAt ts i).k = 3 ∧ (tyAt ts i).m = true) ∧ ∀ p ∈ (tyAt ts i).ar, Cop ts p := by
  have hd := Dn.F hw
  constructor
  · rintro ⟨_, h⟩
    refine ⟨h i (.refl _), fun p hp => ?_⟩
    have := hd i hi p hp
    exact ⟨⟨this.1, Int.lt_trans this.2 hi.2⟩, fun b hb => h b (.step hp hb)⟩
  · rintro ⟨h1, h2⟩
    refine ⟨hi, fun b hb => ?_⟩
    rcases Rch.iff.1 hb with rfl | ⟨p, hp, h⟩
    · exact h1
    · exact (h2 p hp).2 b h
def rfN (ts : List TyS) : Prop := ∀ t ∈ ts, t.k = 3 → t.ar = []
theorem tyAt_in {ts : List TyS} {a : Int} (h : InR ts.length a) : tyAt ts a ∈ ts := by
  obtain ⟨h', he⟩ := tyAt_get h
  rw [he]; exact List.getElem_mem h'
theorem rfN_of_ok {ts : List TyS} {n : Int} (h : ∀ i (h : i < ts.length), Ok1 (ts.take i) n ts[i]) : rfN ts := fun t ht h3 => by
  obtain ⟨i, hi, rfl⟩ := List.getElem_of_mem ht
  exact (h i hi).fl (by omega)
theorem upd_self {H : Heap} {b : Nat} {x : HObj} (h : H b = some x) : H.upd b x = H := by
  funext c
  by_cases e : c = b
  · rw [e, Heap.upd_same, h]
  · rw [Heap.upd_ne e]
def I64' (x : Int) : Prop := -9223372036854775808 ≤ x ∧ x ≤ 9223372036854775807
def SV (S : List Int) : List (Value × Value) := S.map fun k => (.int .i64 k, .bool true)
def SM (S : List Int) : List (Value × D) := (SV S).map fun p => (p.1, .val p.2)
theorem SM_cons (a : Int) (S : List Int) : SM (a :: S) = (.int .i64 a, .val (.bool true)) :: SM S := rfl
theorem SM_in {S : List Int} {x : Int} : x ∈ S → mget (SM S) (.int .i64 x) = some (.val (.bool true)) := by
  induction S with
  | nil => intro h; cases h
  | cons a S ih =>
    intro h
    rw [SM_cons]
    by_cases e : a = x
    · subst e; simp [mget]
    · have h2 : x ∈ S := by rcases List.mem_cons.1 h with h | h; exact absurd h.symm e; exact h
      simp only [mget]
      rw [if_neg (by simpa using e)]
      exact ih h2
theorem SM_out {S : List Int} {x : Int} : x ∉ S → mget (SM S) (.int .i64 x) = none := by
  induction S with
  | nil => intro _; rfl
  | cons a S ih =>
    intro h
    rw [SM_cons]
    have e : ¬ a = x := fun e => h (by simp [e])
    simp only [mget]
    rw [if_neg (by simpa using e)]
    exact ih fun h2 => h (List.mem_cons_of_mem _ h2)
theorem SM_set {S : List Int} {x : Int} : x ∉ S → mset (SM S) (.int .i64 x) (.val (.bool true)) = SM (S ++ [x]) := by
  induction S with
  | nil => intro _; rfl
  | cons a S ih =>
    intro h
    rw [List.cons_append, SM_cons, SM_cons]
    have e : ¬ a = x := fun e => h (by simp [e])
    simp only [mset]
    rw [if_neg (by simpa using e), ih fun h2 => h (List.mem_cons_of_mem _ h2)]
theorem SM_ok {S : List Int} {n : Int} (hn : n ≤ 1000000) (h : ∀ x ∈ S, InR n x) {x : Int} (hx : I64' x) : kOK Tryz.prog 3 (SM S) (.int .i64 x) :=
  ⟨Go.Maps.int_keyed Tryz.underlying3, keyOf_i64 Tryz.underlying3 hx, fun p hp => by
    unfold SM SV at hp
    rw [List.map_map, List.mem_map] at hp
    obtain ⟨y, hy, rfl⟩ := hp
    have := h y hy
    exact keyOf_i64 Tryz.underlying3 (by unfold InR at this; omega)⟩
theorem upd_upd (H : Heap) (b : Nat) (x y : HObj) : (H.upd b x).upd b y = H.upd b y := by
  funext c
  by_cases e : c = b
  · rw [e, Heap.upd_same, Heap.upd_same]
  · rw [Heap.upd_ne e, Heap.upd_ne e, Heap.upd_ne e]
end Go.Proofs.YtgfhgeelfaalmaaGreatDoor
