/- Lemmas and contracts of functions, several texts in one: S0 EQ B1 SM. -/
import Derived.Test.YtgfhgeelfaalmaaGreatDoorK06
import Derived.Test.YtgfhgeelfaalmaaGreatDoorK07
import Derived.ChangeKeysEq
import Derived.Laws.StructEq
import Derived.Test.YtgfhgeelfaalmaaGreatDoorK05
/- Strings as descriptions. -/
namespace Go.Proofs.YtgfhgeelfaalmaaGreatDoor
open Go.RowKit
set_option linter.unusedVariables false
set_option linter.unusedSimpArgs false
def strD (s : ByteArray) : D := .val (.string s)
def sD (s : ByteArray) : List D := [strD s]
def big (n : Nat) : Prop := n ≤ 140737488351232
theorem toL_inj {a b : ByteArray} : a.toList = b.toList ↔ a = b := by
  constructor
  · intro h
    rw [ByteArray.toList_eq, ByteArray.toList_eq] at h
    obtain ⟨⟨x⟩⟩ := a
    obtain ⟨⟨y⟩⟩ := b
    simp only at h
    rw [h]
  · rintro rfl; rfl
theorem map_get {α : Type} {f : α → List D} {l : List α} {i : Nat} (h : i < l.length) : (l.map f)[i]? = some (f l[i]) := by
  rw [List.getElem?_map, List.getElem?_eq_getElem h]; rfl
theorem take_snocA {α : Type} {l m : List α} {i : Nat} (h : l.take i = m.take i) (h1 : i < l.length) (h2 : i < m.length) (he : l[i] = m[i]) : l.take (i + 1) = m.take (i + 1) := by
  rw [List.take_succ_eq_append_getElem h1, List.take_succ_eq_append_getElem h2, h, he]
/-- A test said as True or False. -/
theorem tfB (p : Prop) : ∃ b, p = b ∧ ((b = True ∧ p) ∨ (b = False ∧ ¬ p)) := ⟨p, rfl, by by_cases h : p <;> simp [h]⟩
theorem get_strs {l : List ByteArray} {i : Nat} (h : i < l.length) : (l.map sD)[i]? = some [.val (.string l[i])] := by
  rw [List.getElem?_map, List.getElem?_eq_getElem h]; rfl
/-- The type of one cell: a string or a number. -/
def KTy (P : Program) (e : TypeId) (k : Bool) : Prop := P.plainKey e = true ∧ P.underlying e = some (if k = true then .string else .int .i64)
theorem eqK_cons {ds es : List D} {k : Bool} {ks : List Bool} {r : Bool} (h : eqK ds es = some (k :: ks, r)) : ∃ v u ds' es' r1 r', ds = .val v :: ds' ∧ es = .val u :: es' ∧ eqK ds' es' = some (ks, r') ∧ r = (r1 && r') ∧ ∀ (P : Program) (e : TypeId) (d : Nat) (w : World), KTy P e k → (Op.equalIn (d + 1) e v u).run P w = .ok r1 w := by
  unfold eqK at h
  split at h
  · simp at h
  · rename_i a x b y
    split at h
    · rename_i k' r' he
      simp only [Option.some.injEq, Prod.mk.injEq, List.cons.injEq] at h
      obtain ⟨⟨rfl, rfl⟩, rfl⟩ := h
      refine ⟨_, _, _, _, _, _, rfl, rfl, he, rfl, fun P e d w ⟨h1, h2⟩ => ?_⟩
      have := run_equalIn_int (P := P) w d e .i64 .i64 a b h2
      rw [this]
      have : (a == b) = decide (a = b) := by by_cases e : a = b <;> simp [e]
      rw [this]
    · cases h
  · rename_i a x b y
    split at h
    · rename_i k' r' he
      simp only [Option.some.injEq, Prod.mk.injEq, List.cons.injEq] at h
      obtain ⟨⟨rfl, rfl⟩, rfl⟩ := h
      refine ⟨_, _, _, _, _, _, rfl, rfl, he, rfl, fun P e d w ⟨h1, h2⟩ => ?_⟩
      have := run_equalIn_string (P := P) w d e a b h2
      rw [this]
      have : (a.toList == b.toList) = decide (a.toList = b.toList) := by by_cases e : a.toList = b.toList <;> simp [e]
      rw [this]
    · cases h
  · cases h
theorem eqK_two {ds es : List D} {k l : Bool} {r : Bool} (h : eqK ds es = some ([k, l], r)) : ∃ v u v2 u2 r1 r2, ds = [.val v, .val v2] ∧ es = [.val u, .val u2] ∧ r = (r1 && r2) ∧ (∀ (P : Program) (e : TypeId) (d : Nat) (w : World), KTy P e k → (Op.equalIn (d + 1) e v u).run P w = .ok r1 w) ∧ ∀ (P : Program) (e : TypeId) (d : Nat) (w : World), KTy P e l → (Op.equalIn (d + 1) e v2 u2).run P w = .ok r2 w := by
  obtain ⟨v, u, ds', es', r1, r', rfl, rfl, h2, rfl, hr⟩ := eqK_cons h
  obtain ⟨v2, u2, ds2, es2, r2, r3, rfl, rfl, h3, rfl, hr2⟩ := eqK_cons h2
  have h4 : ds2 = [] ∧ es2 = [] ∧ r3 = true := by
    unfold eqK at h3
    split at h3
    · simpa using h3.symm
    · split at h3 <;> simp at h3
    · split at h3 <;> simp at h3
    · cases h3
  obtain ⟨rfl, rfl, rfl⟩ := h4
  exact ⟨v, u, v2, u2, r1, r2, rfl, rfl, by simp, hr, hr2⟩
theorem cells_two {w : World} {S : Nat → Prop} {a b : Value} {vs : List Value} (h : cellsAll w S [.val a, .val b] vs) : vs = [a, b] := by
  simp only [cellsAll, D.is] at h
  obtain ⟨u, us, rfl, _, rfl, v, vs, rfl, _, rfl, rfl⟩ := h
  rfl
theorem eqTy_struct2 {P : Program} {t : TypeId} {k l : Bool} (f g : Field) (hu : P.underlying t = some (.struct #[f, g])) (hh : P.stoodInHeld t = false) (hm : P.eqGuardType P.depth t = false)
    (fn : f.name ≠ "_") (gn : g.name ≠ "_") (f0 : f.offset = 0) (g1 : g.offset = 1) (kf : KTy P f.type k) (kg : KTy P g.type l) : EqTy P t [k, l] := by
  intro ds es r vs us w S op p q he hv hw
  obtain ⟨v, u, v2, u2, r1, r2, rfl, rfl, rfl, h1, h2⟩ := eqK_two he
  rw [cells_two hv, cells_two hw]
  refine ⟨run_eqGuard_agg w op t p q _ _ hm, ?_⟩
  have hf : P.fieldsOf t = #[f, g] := by unfold Program.fieldsOf; rw [hu]
  have := run_equalIn_struct (P := P) w 9999 t [v, v2].toArray [u, u2].toArray (by rw [hf]; exact hu) hh
  unfold Op.equal
  rw [show Op.maxDepth = 9999 + 1 from rfl, this, hf]
  have e1 : ∀ w, (Go.part f.type [v, v2].toArray f.offset).run P w = .ok v w := fun w => run_part_plain w kf.1 (by rw [f0]; rfl)
  have e2 : ∀ w, (Go.part f.type [u, u2].toArray f.offset).run P w = .ok u w := fun w => run_part_plain w kf.1 (by rw [f0]; rfl)
  have e3 : ∀ w, (Go.part g.type [v, v2].toArray g.offset).run P w = .ok v2 w := fun w => run_part_plain w kg.1 (by rw [g1]; rfl)
  have e4 : ∀ w, (Go.part g.type [u, u2].toArray g.offset).run P w = .ok u2 w := fun w => run_part_plain w kg.1 (by rw [g1]; rfl)
  simp only [Op.eqFields, ne_eq, fn, gn, not_false_eq_true, if_true, Sem.run_bind, e1, e2, e3, e4, h1 P _ 9998 _ kf, h2 P _ 9998 _ kg, Result.andThen]
  cases r1 <;> cases r2 <;> simp [Sem.run, e3, e4, h2 P _ 9998 _ kg, Op.eqFields, Sem.run_bind, Result.andThen]
theorem eqTy_arr2 {P : Program} {t e : TypeId} {k : Bool} {i : TypeInfo} (hu : P.underlying t = some (.array 2 e)) (hi : P.info? e = some i) (hc : P.cellsOf e = 1) (hm : P.eqGuardType P.depth t = false) (ke : KTy P e k) : EqTy P t [k, k] := by
  intro ds es r vs us w S op p q he hv hw
  obtain ⟨v, u, v2, u2, r1, r2, rfl, rfl, rfl, h1, h2⟩ := eqK_two he
  rw [cells_two hv, cells_two hw]
  refine ⟨run_eqGuard_agg w op t p q _ _ hm, ?_⟩
  have := run_equalIn_array (P := P) w 9999 [v, v2].toArray [u, u2].toArray hu hi
  unfold Op.equal
  rw [show Op.maxDepth = 9999 + 1 from rfl, this, hc]
  have e1 : ∀ w, (Go.part e [v, v2].toArray 0).run P w = .ok v w := fun w => run_part_plain w ke.1 rfl
  have e2 : ∀ w, (Go.part e [u, u2].toArray 0).run P w = .ok u w := fun w => run_part_plain w ke.1 rfl
  have e3 : ∀ w, (Go.part e [v, v2].toArray 1).run P w = .ok v2 w := fun w => run_part_plain w ke.1 rfl
  have e4 : ∀ w, (Go.part e [u, u2].toArray 1).run P w = .ok u2 w := fun w => run_part_plain w ke.1 rfl
  have hr : List.range 2 = [0, 1] := rfl
  rw [hr]
  simp only [Op.eqItems, Nat.zero_mul, Nat.one_mul, Sem.run_bind, e1, e2, e3, e4, h1 P _ 9998 _ ke, h2 P _ 9998 _ ke, Result.andThen]
  cases r1 <;> cases r2 <;> simp [Sem.run, e3, e4, h2 P _ 9998 _ ke, Op.eqItems, Sem.run_bind, Result.andThen]
structure PlS where
  lo : Int
  pr : List (Int × Int)
deriving DecidableEq
structure OpS where
  k : Int
  pl : PlS
  n : Int
deriving DecidableEq
structure RvS where
  k : Int
  op : Int
  rg : Int
  mu : Bool
  pl : PlS
  ar : List OpS
deriving DecidableEq
structure StS where
  k : Int
  pl : PlS
  rv : RvS
  lo : Int
deriving DecidableEq
structure TmS where
  k : Int
  tg : List Int
  ar : List OpS
  pl : PlS
  nm : ByteArray
deriving DecidableEq
structure BkS where
  st : List StS
  tm : TmS
deriving DecidableEq
structure LcS where
  nm : ByteArray
  ty : Int
deriving DecidableEq
structure BdS where
  nm : ByteArray
  rg : List ByteArray
  ol : List (Int × Int)
  ty : List TyS
  lc : List LcS
  ag : Int
  bl : List BkS
deriving DecidableEq
def plD (p : PlS) : List D := [i64 p.lo, .seq 2 (p.pr.map pD)]
def opD (o : OpS) : List D := [i64 o.k, i64 o.pl.lo, .seq 2 (o.pl.pr.map pD), i64 o.n]
def rvD (r : RvS) : List D := [i64 r.k, i64 r.op, i64 r.rg, .val (.bool r.mu), i64 r.pl.lo, .seq 2 (r.pl.pr.map pD), .seq 4 (r.ar.map opD)]
def stD (s : StS) : List D := [i64 s.k, i64 s.pl.lo, .seq 2 (s.pl.pr.map pD), i64 s.rv.k, i64 s.rv.op, i64 s.rv.rg, .val (.bool s.rv.mu), i64 s.rv.pl.lo, .seq 2 (s.rv.pl.pr.map pD), .seq 4 (s.rv.ar.map opD), i64 s.lo]
def tmD (t : TmS) : List D := [i64 t.k, .seq 1 (t.tg.map iD), .seq 4 (t.ar.map opD), i64 t.pl.lo, .seq 2 (t.pl.pr.map pD), strD t.nm]
def bkD (b : BkS) : List D := [.seq 11 (b.st.map stD), i64 b.tm.k, .seq 1 (b.tm.tg.map iD), .seq 4 (b.tm.ar.map opD), i64 b.tm.pl.lo, .seq 2 (b.tm.pl.pr.map pD), strD b.tm.nm]
def lcD (l : LcS) : List D := [strD l.nm, i64 l.ty]
def bdD (b : BdS) : List D := [strD b.nm, .seq 1 (b.rg.map sD), .seq 2 (b.ol.map pD), .seq 5 (b.ty.map tyD), .seq 2 (b.lc.map lcD), i64 b.ag, .seq 7 (b.bl.map bkD)]
/-- The lists are no longer than memory. -/
def okPl (p : PlS) : Prop := big p.pr.length
def okOp (o : OpS) : Prop := okPl o.pl
def okRv (r : RvS) : Prop := okPl r.pl ∧ big r.ar.length ∧ ∀ o ∈ r.ar, okOp o
def okSt (s : StS) : Prop := okPl s.pl ∧ okRv s.rv
def okTm (t : TmS) : Prop := big t.tg.length ∧ (big t.ar.length ∧ ∀ o ∈ t.ar, okOp o) ∧ okPl t.pl
def okBk (b : BkS) : Prop := (big b.st.length ∧ ∀ s ∈ b.st, okSt s) ∧ okTm b.tm
def okTyL (l : List TyS) : Prop := big l.length ∧ ∀ t ∈ l, big t.ar.length
def okBd (b : BdS) : Prop := big b.rg.length ∧ big b.ol.length ∧ okTyL b.ty ∧ big b.lc.length ∧ big b.bl.length ∧ ∀ x ∈ b.bl, okBk x
theorem pls_ext {a b : PlS} : a = b ↔ a.lo = b.lo ∧ a.pr = b.pr := ⟨fun h => by subst h; simp, fun h => by cases a; cases b; simp_all⟩
theorem ops_ext {a b : OpS} : a = b ↔ a.k = b.k ∧ a.n = b.n ∧ a.pl = b.pl := ⟨fun h => by subst h; simp, fun h => by cases a; cases b; simp_all⟩
theorem rvs_ext {a b : RvS} : a = b ↔ a.k = b.k ∧ a.op = b.op ∧ a.rg = b.rg ∧ a.mu = b.mu ∧ a.pl = b.pl ∧ a.ar = b.ar := ⟨fun h => by subst h; simp, fun h => by cases a; cases b; simp_all⟩
theorem sts_ext {a b : StS} : a = b ↔ a.k = b.k ∧ a.lo = b.lo ∧ a.pl = b.pl ∧ a.rv = b.rv := ⟨fun h => by subst h; simp, fun h => by cases a; cases b; simp_all⟩
theorem tms_ext {a b : TmS} : a = b ↔ a.k = b.k ∧ a.nm = b.nm ∧ a.tg = b.tg ∧ a.ar = b.ar ∧ a.pl = b.pl := ⟨fun h => by subst h; simp, fun h => by cases a; cases b; simp_all⟩
theorem bks_ext {a b : BkS} : a = b ↔ a.st = b.st ∧ a.tm = b.tm := ⟨fun h => by subst h; simp, fun h => by cases a; cases b; simp_all⟩
theorem bds_ext {a b : BdS} : a = b ↔ a.nm = b.nm ∧ a.ag = b.ag ∧ a.rg = b.rg ∧ a.ol = b.ol ∧ a.ty = b.ty ∧ a.lc = b.lc ∧ a.bl = b.bl := ⟨fun h => by subst h; simp, fun h => by cases a; cases b; simp_all⟩
theorem eqTy_proj : EqTy Tryz.prog 107 [false, false] :=
  eqTy_struct2 (f := (Tryz.prog.fieldsOf 107)[0]!) (g := (Tryz.prog.fieldsOf 107)[1]!) (by kernel_rfl) (by kernel_rfl) (by kernel_rfl) (by decide +kernel) (by decide +kernel) (by kernel_rfl) (by kernel_rfl) ⟨by kernel_rfl, by kernel_rfl⟩ ⟨by kernel_rfl, by kernel_rfl⟩
theorem eqTy_local : EqTy Tryz.prog 64 [true, false] :=
  eqTy_struct2 (f := (Tryz.prog.fieldsOf 64)[0]!) (g := (Tryz.prog.fieldsOf 64)[1]!) (by kernel_rfl) (by kernel_rfl) (by kernel_rfl) (by decide +kernel) (by decide +kernel) (by kernel_rfl) (by kernel_rfl) ⟨by kernel_rfl, by kernel_rfl⟩ ⟨by kernel_rfl, by kernel_rfl⟩
theorem eqTy_pair : EqTy Tryz.prog 104 [false, false] := eqTy_arr2 (e := 3) (by kernel_rfl) (i := (Tryz.prog.info? 3).get!) (by kernel_rfl) (by kernel_rfl) (by kernel_rfl) ⟨by kernel_rfl, by kernel_rfl⟩
/-- A map whose keys are strings: what it holds at each. -/
structure StrM (m : List (Value × D)) (f : ByteArray → Option D) : Prop where
  keys : ∀ p ∈ m, ∃ s : ByteArray, big s.size ∧ p.1 = .string s
  get : ∀ s : ByteArray, mget m (.string s) = f s
theorem StrM.nil : StrM [] fun _ => Option.none := ⟨(fun p hp => by cases hp), (fun x => rfl)⟩
theorem StrM.set {m : List (Value × D)} {f : ByteArray → Option D} (h : StrM m f) {x : ByteArray} (hx : big x.size) (d : D) : StrM (mset m (.string x) d) fun y => if y = x then some d else f y where
  keys := fun p hp => by
    rcases mset_mem hp with rfl | hp
    · exact ⟨x, hx, rfl⟩
    · exact h.keys p hp
  get := fun y => by
    by_cases e : y = x
    · subst e; rw [mget_mset_same, if_pos rfl]
    · rw [mget_mset_ne _ _ (fun he => e (by injection he with he; exact he.symm)), if_neg e]; exact h.get y
theorem keyOf_str {P : Program} {k : TypeId} (hk : P.underlying k = some .string) {x : ByteArray} (hx : big x.size) : ∃ l, keyOf P k (.string x) = some l := by
  unfold keyOf
  rw [hk]
  simp only [mapKey, hk]
  unfold big at hx
  rw [if_pos (by unfold maxLen; omega)]
  exact ⟨_, rfl⟩
theorem StrM.ok {P : Program} {k : TypeId} (hk : P.underlying k = some .string) {m : List (Value × D)} {f : ByteArray → Option D} (h : StrM m f) {x : ByteArray} (hx : big x.size) : kOK P k m (.string x) :=
  ⟨Go.Maps.string_keyed hk, keyOf_str hk hx, fun p hp => by obtain ⟨y, hy, e⟩ := h.keys p hp; rw [e]; exact keyOf_str hk hy⟩
theorem StrM.congr {m : List (Value × D)} {f g : ByteArray → Option D} (h : StrM m f) (he : ∀ x, f x = g x) : StrM m g := ⟨h.keys, fun x => (h.get x).trans (he x)⟩
open Classical in
/-- The set of the strings seen. -/
noncomputable def seenS (S : List ByteArray) (x : ByteArray) : Option D := if x ∈ S then some (.val (.bool true)) else none
theorem seenS_nil (x : ByteArray) : none = seenS [] x := by unfold seenS; rw [if_neg (by simp)]
theorem seenS_snoc (y : ByteArray) (S : List ByteArray) (x : ByteArray) : (if x = y then some (D.val (.bool true)) else seenS S x) = seenS (S ++ [y]) x := by
  unfold seenS
  by_cases h : x = y
  · rw [if_pos h, if_pos (by rw [h]; simp)]
  · rw [if_neg h]
    by_cases h2 : x ∈ S
    · rw [if_pos h2, if_pos (by simp [h2])]
    · rw [if_neg h2, if_neg (by simp [h, h2])]
end Go.Proofs.YtgfhgeelfaalmaaGreatDoor
