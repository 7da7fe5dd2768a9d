/- Lemmas and contracts of functions, several texts in one: S0 EQ B1 SM. -/
import Derived.Test.YtgfhgeelfaalmaaGreatDoorK06
import Derived.Test.YtgfhgeelfaalmaaGreatDoorK07
import Derived.ChangeKeysEq
import Derived.Laws.StructEq
import Derived.Test.YtgfhgeelfaalmaaGreatDoorK05
namespace Go.Proofs.YtgfhgeelfaalmaaGreatDoor
open Go.RowKit
set_option linter.unusedVariables false
set_option linter.unusedSimpArgs false
def strD (s : ByteArray) : D := .val (.string s)
def sD (s : ByteArray) : List D := [strD s]
def big (n : Nat) : Prop := n ≤ 140737488351232
theorem toL_inj {a b : ByteArray} : a.toList = b.toList ↔ a = b := by
  constructor
  · intro h
    rw [ByteArray.toList_eq, ByteArray.toList_eq] at h
    obtain ⟨⟨x⟩⟩ := a
    obtain ⟨⟨y⟩⟩ := b
    simp only at h
    rw [h]
  · rintro rfl; rfl
theorem map_get {α : Type} {f : α → List D} {l : List α} {i : Nat} (h : i < l.length) : (l.map f)[i]? = some (f l[i]) := by
  rw [List.getElem?_map, List.getElem?_eq_getElem h]; rfl
theorem tfB (p : Prop) : ∃ b, p = b ∧ ((b = True ∧ p) ∨ (b = False ∧ ¬ p)) := ⟨p, rfl, by by_cases h : p <;> simp [h]⟩
theorem get_strs {l : List ByteArray} {i : Nat} (h : i < l.length) : (l.map sD)[i]? = some [.val (.string l[i])] := by
  rw [List.getElem?_map, List.getElem?_eq_getElem h]; rfl
end Go.Proofs.YtgfhgeelfaalmaaGreatDoor
namespace Go.Proofs.YtgfhgeelfaalmaaGreatDoor
open Go.RowKit
set_option linter.unusedVariables false
set_option linter.unusedSimpArgs false
structure PlS where
  lo : Int
  pr : List (Int × Int)
deriving DecidableEq
structure OpS where
  k : Int
  pl : PlS
  n : Int
deriving DecidableEq
structure RvS where
  k : Int
  op : Int
  rg : Int
  mu : Bool
  pl : PlS
  ar : List OpS
deriving DecidableEq
structure StS where
  k : Int
  pl : PlS
  rv : RvS
  lo : Int
deriving DecidableEq
structure TmS where
  k : Int
  tg : List Int
  ar : List OpS
  pl : PlS
  nm : ByteArray
deriving DecidableEq
structure BkS where
  st : List StS
  tm : TmS
deriving DecidableEq
structure LcS where
  nm : ByteArray
  ty : Int
deriving DecidableEq
structure BdS where
  nm : ByteArray
  rg : List ByteArray
  ol : List (Int × Int)
  ty : List TyS
  lc : List LcS
  ag : Int
  bl : List BkS
deriving DecidableEq
def plD (p : PlS) : List D := [i64 p.lo, .seq 2 (p.pr.map pD)]
def opD (o : OpS) : List D := [i64 o.k, i64 o.pl.lo, .seq 2 (o.pl.pr.map pD), i64 o.n]
def rvD (r : RvS) : List D := [i64 r.k, i64 r.op, i64 r.rg, .val (.bool r.mu), i64 r.pl.lo, .seq 2 (r.pl.pr.map pD), .seq 4 (r.ar.map opD)]
def stD (s : StS) : List D := [i64 s.k, i64 s.pl.lo, .seq 2 (s.pl.pr.map pD), i64 s.rv.k, i64 s.rv.op, i64 s.rv.rg, .val (.bool s.rv.mu), i64 s.rv.pl.lo, .seq 2 (s.rv.pl.pr.map pD), .seq 4 (s.rv.ar.map opD), i64 s.lo]
def tmD (t : TmS) : List D := [i64 t.k, .seq 1 (t.tg.map iD), .seq 4 (t.ar.map opD), i64 t.pl.lo, .seq 2 (t.pl.pr.map pD), strD t.nm]
def bkD (b : BkS) : List D := [.seq 11 (b.st.map stD), i64 b.tm.k, .seq 1 (b.tm.tg.map iD), .seq 4 (b.tm.ar.map opD), i64 b.tm.pl.lo, .seq 2 (b.tm.pl.pr.map pD), strD b.tm.nm]
def lcD (l : LcS) : List D := [strD l.nm, i64 l.ty]
def bdD (b : BdS) : List D := [strD b.nm, .seq 1 (b.rg.map sD), .seq 2 (b.ol.map pD), .seq 5 (b.ty.map tyD), .seq 2 (b.lc.map lcD), i64 b.ag, .seq 7 (b.bl.map bkD)]
def okPl (p : PlS) : Prop := big p.pr.length
def okOp (o : OpS) : Prop := okPl o.pl
def okRv (r : RvS) : Prop := okPl r.pl ∧ big r.ar.length ∧ ∀ o ∈ r.ar, okOp o
def okSt (s : StS) : Prop := okPl s.pl ∧ okRv s.rv
def okTm (t : TmS) : Prop := big t.tg.length ∧ (big t.ar.length ∧ ∀ o ∈ t.ar, okOp o) ∧ okPl t.pl
def okBk (b : BkS) : Prop := (big b.st.length ∧ ∀ s ∈ b.st, okSt s) ∧ okTm b.tm
def okTyL (l : List TyS) : Prop := big l.length ∧ ∀ t ∈ l, big t.ar.length
def okBd (b : BdS) : Prop := big b.rg.length ∧ big b.ol.length ∧ okTyL b.ty ∧ big b.lc.length ∧ big b.bl.length ∧ ∀ x ∈ b.bl, okBk x
structure StrM (m : List (Value × D)) (f : ByteArray → Option D) : Prop where
  keys : ∀ p ∈ m, ∃ s : ByteArray, big s.size ∧ p.1 = .string s
  get : ∀ s : ByteArray, mget m (.string s) = f s
theorem StrM.nil : StrM [] fun _ => Option.none := ⟨(fun p hp => by cases hp), (fun x => rfl)⟩
theorem StrM.set {m : List (Value × D)} {f : ByteArray → Option D} (h : StrM m f) {x : ByteArray} (hx : big x.size) (d : D) : StrM (mset m (.string x) d) fun y => if y = x then some d else f y where
  keys := fun p hp => by
    rcases mset_mem hp with rfl | hp
    · exact ⟨x, hx, rfl⟩
    · exact h.keys p hp
  get := fun y => by
    by_cases e : y = x
    · subst e; rw [mget_mset_same, if_pos rfl]
    · rw [mget_mset_ne _ _ (fun he => e (by injection he with he; exact he.symm)), if_neg e]; exact h.get y
theorem keyOf_str {P : Program} {k : TypeId} (hk : P.underlying k = some .string) {x : ByteArray} (hx : big x.size) : ∃ l, keyOf P k (.string x) = some l := by
  unfold keyOf
  rw [hk]
  simp only [mapKey, hk]
  unfold big at hx
  rw [if_pos (by unfold maxLen; omega)]
  exact ⟨_, rfl⟩
theorem StrM.ok {P : Program} {k : TypeId} (hk : P.underlying k = some .string) {m : List (Value × D)} {f : ByteArray → Option D} (h : StrM m f) {x : ByteArray} (hx : big x.size) : kOK P k m (.string x) :=
  ⟨Go.Maps.string_keyed hk, keyOf_str hk hx, fun p hp => by obtain ⟨y, hy, e⟩ := h.keys p hp; rw [e]; exact keyOf_str hk hy⟩
theorem StrM.congr {m : List (Value × D)} {f g : ByteArray → Option D} (h : StrM m f) (he : ∀ x, f x = g x) : StrM m g := ⟨h.keys, fun x => (h.get x).trans (he x)⟩
open Classical in
noncomputable def seenS (S : List ByteArray) (x : ByteArray) : Option D := if x ∈ S then some (.val (.bool true)) else none
theorem seenS_nil (x : ByteArray) : none = seenS [] x := by unfold seenS; rw [if_neg (by simp)]
theorem seenS_snoc (y : ByteArray) (S : List ByteArray) (x : ByteArray) : (if x = y then some (D.val (.bool true)) else seenS S x) = seenS (S ++ [y]) x := by
  unfold seenS
  by_cases h : x = y
  · rw [if_pos h, if_pos (by rw [h]; simp)]
  · rw [if_neg h]
    by_cases h2 : x ∈ S
    · rw [if_pos h2, if_pos (by simp [h2])]
    · rw [if_neg h2, if_neg (by simp [h, h2])]
end Go.Proofs.YtgfhgeelfaalmaaGreatDoor
