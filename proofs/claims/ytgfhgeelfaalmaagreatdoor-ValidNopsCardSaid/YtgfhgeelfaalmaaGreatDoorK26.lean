/- Lemmas and contracts of functions, several texts in one: G1 GB GC. -/
import Derived.Test.YtgfhgeelfaalmaaGreatDoorK23
import Derived.Test.YtgfhgeelfaalmaaGreatDoorK10
import Derived.Test.YtgfhgeelfaalmaaGreatDoorK13
import Derived.Test.YtgfhgeelfaalmaaGreatDoorK16
import Derived.Test.YtgfhgeelfaalmaaGreatDoorK08
namespace Go.Proofs.YtgfhgeelfaalmaaGreatDoor
open Go.RowKit
set_option linter.unusedVariables false
set_option linter.unusedSimpArgs false
def zeroP (p : PlS) : Bool := decide (p.lo = 0) && decide (p.pr.length = 0)
def toE (b : BdS) (p : PlS) : Int × Int := typeOfP b.ty b.lc p
noncomputable def opE (b : BdS) (o : OpS) : Int :=
  if o.k < 0 ∨ 4 < o.k then 14
  else if (o.n ≠ 0 ∧ o.k ≠ 2 ∧ o.k ≠ 3) ∨ (1 < o.k ∧ zeroP o.pl = false) then 2
  else if o.k = 3 ∧ o.n ≠ 0 ∧ o.n ≠ 1 then 3
  else if 1 < o.k then 0
  else if (toE b o.pl).2 ≠ 0 then (toE b o.pl).2
  else if (o.k = 0 ∧ copB b.ty (toE b o.pl).1 = false) ∨ (o.k = 1 ∧ hasDr o.pl 0 = true) then 22 else 0
def kdE (b : BdS) (o : OpS) : Int := if o.k = 2 then 2 else if o.k = 3 then 1 else if o.k = 4 then 0 else (tyAt b.ty (toE b o.pl).1).k
noncomputable def fitE (b : BdS) (o : OpS) (t : Int) : Bool := if 1 < o.k then decide (kdE b o = (tyAt b.ty t).k) else subX b.ol b.rg.length b.ty (toE b o.pl).1 t
noncomputable def opsE (b : BdS) : List OpS → List Int → Int
  | [], _ => 0
  | o :: l, fs => if opE b o ≠ 0 then opE b o else match fs with
    | [] => opsE b l []
    | f :: fs => if fitE b o f = false then 22 else opsE b l fs
def unE (op : Int) : Int × Int := if op = 0 then (2, 2) else (1, 1)
def binE (op : Int) : Int × Int := if op = 5 then (1, 1) else if 3 ≤ op then (2, 1) else (2, 2)
noncomputable def oprE (b : BdS) (r : RvS) (t : Int) (n : Int) (x : Int × Int) : Int :=
  if r.op < 0 ∨ n ≤ r.op then 14
  else if opsE b r.ar [] ≠ 0 then opsE b r.ar []
  else if (r.ar.all fun o => decide (kdE b o = x.1)) = false then 22
  else if (tyAt b.ty t).k ≠ x.2 then 22 else 0
noncomputable def borE (b : BdS) (r : RvS) (t : Int) : Int :=
  if (toE b r.pl).2 ≠ 0 then (toE b r.pl).2
  else if r.rg < 0 ∨ (b.rg.length : Int) ≤ r.rg then 3
  else if (tyAt b.ty t).k ≠ 3 ∨ (tyAt b.ty t).r ≠ r.rg ∨ (tyAt b.ty t).m ≠ r.mu ∨ (tyAt b.ty t).e ≠ (toE b r.pl).1 ∨ (r.mu = true ∧ mutP b.ty b.lc r.pl = false) then 22
  else if ((regP b.ty b.lc r.pl).all fun q => outlB b.ol b.rg.length q r.rg) = false then 22 else 0
def shpE (r : RvS) : Bool :=
  if r.k = 1 then decide (r.op = 0) && decide (r.ar.length = 0)
  else (decide (r.rg = 0) && !r.mu && zeroP r.pl) && (if r.k = 0 then decide (r.op = 0) && decide (r.ar.length = 1) else if r.k = 2 then decide (r.ar.length = 1) else if r.k = 3 then decide (r.ar.length = 2) else decide (r.op = 0))
noncomputable def rvE (b : BdS) (r : RvS) (t : Int) : Int :=
  if r.k < 0 ∨ 4 < r.k then 14
  else if shpE r = false then 2
  else if r.k = 0 then opsE b r.ar [t]
  else if r.k = 1 then borE b r t
  else if r.k = 2 then oprE b r t 2 (unE r.op)
  else if r.k = 3 then oprE b r t 6 (binE r.op)
  else if (tyAt b.ty t).k ≠ 4 ∨ (tyAt b.ty t).ar.length ≠ r.ar.length then 22 else opsE b r.ar (tyAt b.ty t).ar
def wrtE (b : BdS) (p : PlS) : Int := if (toE b p).2 ≠ 0 then (toE b p).2 else if mutP b.ty b.lc p = false then 22 else 0
def blkE (s : StS) : Bool := zeroP s.pl && (decide (s.rv.k = 0) && decide (s.rv.op = 0) && decide (s.rv.ar.length = 0) && decide (s.rv.rg = 0) && !s.rv.mu && zeroP s.rv.pl)
noncomputable def stE (b : BdS) (s : StS) : Int :=
  if s.k = 0 then (if s.lo ≠ 0 then 2 else if wrtE b s.pl ≠ 0 then wrtE b s.pl else rvE b s.rv (toE b s.pl).1)
  else if s.k = 1 then (if blkE s = false then 2 else if s.lo < 0 ∨ (b.lc.length : Int) ≤ s.lo then 3 else 0)
  else if s.k = 2 then (if blkE s = false ∨ s.lo ≠ 0 then 2 else 0)
  else 14
def fldE (t : TmS) : Bool :=
  if t.k = 0 then (decide (t.tg.length = 1) && decide (t.ar.length = 0)) && zeroP t.pl && decide (t.nm = ByteArray.empty)
  else if t.k = 1 then (decide (t.tg.length = 2) && decide (t.ar.length = 1)) && zeroP t.pl && decide (t.nm = ByteArray.empty)
  else if t.k = 3 then decide (t.tg.length = 1)
  else if t.k = 4 then (decide (t.tg.length = 1) && decide (t.ar.length = 0)) && decide (t.nm = ByteArray.empty)
  else (decide (t.tg.length = 0) && decide (t.ar.length = 0)) && zeroP t.pl && decide (t.nm = ByteArray.empty)
def op0 (t : TmS) : OpS := t.ar.getD 0 ⟨0, ⟨0, []⟩, 0⟩
noncomputable def tmE (b : BdS) (t : TmS) : Int :=
  if t.k < 0 ∨ 5 < t.k then 14
  else if fldE t = false then 2
  else if (t.tg.all fun x => decide (InR b.bl.length x)) = false then 3
  else if t.k = 1 then (if opE b (op0 t) ≠ 0 then opE b (op0 t) else if kdE b (op0 t) ≠ 1 then 22 else 0)
  else if t.k = 3 then (if isId t.nm = false then 12 else if 65535 < t.ar.length then 15 else if opsE b t.ar [] ≠ 0 then opsE b t.ar [] else wrtE b t.pl)
  else if t.k = 4 then (if (toE b t.pl).2 ≠ 0 then (toE b t.pl).2 else if hasDr t.pl 0 = true then 22 else 0)
  else 0
def nmsE (seen : List ByteArray) : List ByteArray → Int
  | [] => 0
  | s :: l => if isId s = false then 12 else if ixS seen s < seen.length then 21 else nmsE (seen ++ [s]) l
def namesE (l : List ByteArray) : Int := if 65535 < l.length then 15 else nmsE [] l
def lcsE (n : Nat) (seen : List ByteArray) : List LcS → Int
  | [] => 0
  | x :: l => if isId x.nm = false then 12 else if ixS seen x.nm < seen.length then 21 else if ¬ InR n x.ty then 3 else lcsE n (seen ++ [x.nm]) l
def locE (b : BdS) : Int := if 65535 < b.lc.length then 15 else if lcsE b.ty.length [] b.lc ≠ 0 then lcsE b.ty.length [] b.lc else if b.ag < 0 ∨ (b.lc.length : Int) < b.ag then 3 else 0
noncomputable def decE (b : BdS) : Int :=
  if isId b.nm = false then 12
  else if namesE b.rg ≠ 0 then namesE b.rg
  else if checkR b.ol b.rg.length ≠ 0 then checkR b.ol b.rg.length
  else if chkT b.ty b.rg.length ≠ 0 then chkT b.ty b.rg.length
  else if locE b ≠ 0 then locE b
  else if b.bl.length = 0 ∨ 65535 < b.bl.length then 15 else 0
noncomputable def stsE (b : BdS) : List StS → Int
  | [] => 0
  | s :: l => if stE b s ≠ 0 then stE b s else stsE b l
noncomputable def bksE (b : BdS) : List BkS → Int
  | [] => 0
  | x :: l => if 65535 < x.st.length then 15 else if stsE b x.st ≠ 0 then stsE b x.st else if tmE b x.tm ≠ 0 then tmE b x.tm else bksE b l
noncomputable def chkE (b : BdS) : Int := if decE b ≠ 0 then decE b else bksE b b.bl
structure DecOk (b : BdS) : Prop where
  wt : wfT b.ty
  wl : wfL b.ty b.lc
  ol : ∀ p ∈ b.ol, InR b.rg.length p.1 ∧ InR b.rg.length p.2
  cr : checkR b.ol b.rg.length = 0
theorem lcs_wf {ts : List TyS} : ∀ {l : List LcS} {seen : List ByteArray}, lcsE ts.length seen l = 0 → wfL ts l
  | [], _, _ => fun x h => by cases h
  | y :: l, seen, h => fun x hx => by
    simp only [lcsE] at h
    split at h
    · cases h
    · split at h
      · cases h
      · split at h
        · cases h
        · rename_i h3
          rcases List.mem_cons.1 hx with rfl | hx
          · exact Classical.byContradiction h3
          · exact lcs_wf h x hx
set_option maxRecDepth 100000
set_option maxHeartbeats 1000000 in
theorem names_N (l : List ByteArray) (H : Heap) (hl : big l.length) (hs : ∀ s ∈ l, big s.size) : Does Tryz.prog 51 [.seq 1 (l.map sD)] H fun d H' => d = i64 (namesE l) ∧ H = H' := by
  refine Does.frz (K := fun d => d = i64 (namesE l)) ?_
  have hle := Heap.le_refl H
  have hml : (List.map sD l).length = l.length := List.length_map _
  unfold big at hl
  refine does_of _ _ Tryz.func51 rfl rfl Tryz.ntmps51 Tryz.results51 (by simp only [List.length_cons, List.length_nil]; omega) fun w0 g0 Q hret => ?_
  by_cases h1 : 65535 < l.length
  · have q1 : ((65535 : Int) < (l.length : Int)) = True := eq_true (by omega)
    have e : namesE l = 15 := if_pos h1
    refine tq (cj3 @i64.eq_1 hml q1) ?_; intro Nx hNx Gx hGx
    refine rt hret @i64.eq_1 ?_
    exact ⟨_, Heap.le_refl _, hle, _, frz_refl hle, by rw [e]⟩
  have q1 : ((65535 : Int) < (l.length : Int)) = False := eq_false (by omega)
  have e : namesE l = nmsE [] l := if_neg h1
  refine tq (cj3 @i64.eq_1 hml q1) ?_; intro Nx hNx Gx hGx
  intro c3 hc3
  refine hNx _ ?_
  have hc3' : (H.upd c3 (.map [])) c3 = some (.map []) := Heap.upd_same _ _ _
  refine tq (cj2 @i64.eq_1 hml) ?_; intro Nx hNx Gx hGx
  refine W_loopN l.length (fun i s => s.df = [] ∧ s.fr 3 = .val (.map (some c3)) ∧ s.fr 10 = .seq 1 (l.map sD) ∧ s.fr 11 = i64 l.length ∧ s.fr 12 = i64 i ∧ H.le s.H ∧ ∃ M, s.H c3 = some (.map M) ∧ StrM M (seenS (l.take i)) ∧ nmsE [] l = nmsE (l.take i) (l.drop i)) ⟨rfl, rfl, rfl, rfl, rfl, Heap.le_new hle hc3, [], hc3', StrM.nil.congr seenS_nil, rfl⟩ ?_
  rintro i s hi ⟨hdf, f3, f10, f11, f12, hleS, M, hM, hS, ha⟩
  have hx : (i : Int).toNat = i := Int.toNat_natCast _
  have h00 : (0 : Int) ≤ (i : Int) := Int.natCast_nonneg _
  by_cases hil : i < l.length
  case neg =>
    have q6 : ((i : Int) < (l.length : Int)) = False := eq_false (by omega)
    rw [List.drop_eq_nil_of_le (by omega)] at ha
    refine tq (cj4 f11 f12 @i64.eq_1 q6) ?_; intro Nx hNx Gx hGx
    refine rt hret hdf ?_
    exact ⟨_, Heap.le_refl _, hleS, _, frz_refl hleS, by rw [e, ha]; rfl⟩
  have hil' : (i : Int) < (l.length : Int) := by omega
  have q6 : ((i : Int) < (l.length : Int)) = True := eq_true hil'
  have w3 : IntKind.i64.wrap ((i : Int) + 1) = ((i + 1 : Nat) : Int) := by rw [wrap_i64_of (by omega)]; omega
  have hgi := get_strs hil
  have hbi := hs l[i] (List.getElem_mem hil)
  rw [List.drop_eq_getElem_cons hil, nmsE] at ha
  have htk := List.take_succ_eq_append_getElem hil
  obtain ⟨x, hxx⟩ : ∃ x, x = l[i] := ⟨_, rfl⟩
  rw [← hxx] at hgi hbi ha htk
  have hid := isid_N x s.H hbi
  simp only [strD] at hid
  obtain ⟨v, hv⟩ : ∃ v, v = isId x := ⟨_, rfl⟩
  rw [← hv] at hid ha
  refine tq (cj12 f3 f10 f11 f12 @i64.eq_1 hml q6 hgi hx h00 hil hil') ?_; intro Nx hNx Gx hGx
  refine hid.mono ?_
  rintro d _ ⟨rfl, rfl⟩
  cases v
  · rw [if_pos rfl] at ha
    refine tq @i64.eq_1 ?_; intro Nx hNx Gx hGx
    refine rt hret hdf ?_
    exact ⟨_, Heap.le_refl _, hleS, _, frz_refl hleS, by rw [e, ha]; rfl⟩
  rw [if_neg (fun h => by cases h)] at ha
  have hk := hS.ok (P := Tryz.prog) Tryz.underlying9 hbi
  have hlk := hS.get x
  by_cases hm : x ∈ l.take i
  · rw [show seenS (l.take i) x = some (.val (.bool true)) from if_pos hm] at hlk
    rw [if_pos (ixS_lt.2 hm)] at ha
    refine tq (cj4 f3 @i64.eq_1 hM hlk) ?_; intro Nx hNx Gx hGx
    refine ⟨hk, ?_⟩
    refine tq @i64.eq_1 ?_; intro Nx hNx Gx hGx
    refine rt hret hdf ?_
    exact ⟨_, Heap.le_refl _, hleS, _, frz_refl hleS, by rw [e, ha]; rfl⟩
  rw [show seenS (l.take i) x = none from if_neg hm] at hlk
  rw [if_neg (fun h => hm (ixS_lt.1 h))] at ha
  refine tq (cj4 f3 @i64.eq_1 hM hlk) ?_; intro Nx hNx Gx hGx
  refine ⟨hk, ?_⟩
  refine tq (cj3 f3 @i64.eq_1 hM) ?_; intro Nx hNx Gx hGx
  refine ⟨hk, ?_⟩
  have hMy : StrM (mset M (.string x) (.val (.bool true))) (seenS (l.take i ++ [x])) := (hS.set hbi (.val (.bool true))).congr (seenS_snoc x _)
  obtain ⟨M4, hM4⟩ : ∃ M4, M4 = mset M (.string x) (.val (.bool true)) := ⟨_, rfl⟩
  rw [← hM4] at hMy ⊢
  have hm4 : (s.H.upd c3 (.map M4)) c3 = some (.map M4) := Heap.upd_same _ _ _
  have hle4 : H.le (s.H.upd c3 (.map M4)) := Heap.le_put hleS hc3
  refine tq (cj3 f12 @i64.eq_1 w3) ?_; intro Nx hNx Gx hGx
  exact ⟨hil, hdf, f3, f10, f11, rfl, hle4, M4, hm4, by rw [htk]; exact hMy, by rw [ha, htk]⟩
theorem lc_get {l : List LcS} {i : Nat} (h : i < l.length) : (l.map lcD)[i]? = some (lcD l[i]) := by
  rw [List.getElem?_map, List.getElem?_eq_getElem h]; rfl
theorem bdD_eq (b : BdS) : bdD b = [strD b.nm, .seq 1 (b.rg.map sD), .seq 2 (b.ol.map pD), .seq 5 (b.ty.map tyD), .seq 2 (b.lc.map lcD), i64 b.ag, .seq 7 (b.bl.map bkD)] := rfl
set_option maxHeartbeats 1000000 in
theorem locals_N (b : BdS) (H : Heap) (hl : big b.lc.length) (hs : ∀ x ∈ b.lc, big x.nm.size) : Does Tryz.prog 54 [.agg (bdD b)] H fun d H' => d = i64 (locE b) ∧ H = H' := by
  refine Does.frz (K := fun d => d = i64 (locE b)) ?_
  have hle := Heap.le_refl H
  have hml : (List.map lcD b.lc).length = b.lc.length := List.length_map _
  have hmt : (List.map tyD b.ty).length = b.ty.length := List.length_map _
  unfold big at hl
  obtain ⟨y, hy⟩ : ∃ y, y = locE b := ⟨_, rfl⟩
  rw [← hy]
  unfold locE at hy
  rw [bdD_eq]
  refine does_of _ _ Tryz.func54 rfl rfl Tryz.ntmps54 Tryz.results54 (by simp only [List.length_cons, List.length_nil]; omega) fun w0 g0 Q hret => ?_
  refine tq @i64.eq_1 ?_; intro Nx hNx Gx hGx
  intro c1 hc1
  refine hNx _ ?_
  refine frz 1 hc1 ?_
  by_cases h1 : 65535 < b.lc.length
  · have q1 : ((65535 : Int) < (b.lc.length : Int)) = True := eq_true (by omega)
    have e : y = 15 := hy.trans (if_pos h1)
    refine tq (cj3 @i64.eq_1 hml q1) ?_; intro Nx hNx Gx hGx
    refine rt hret @i64.eq_1 ?_
    exact ⟨_, Heap.le_refl _, hle, _, frz_refl hle, by rw [e]⟩
  have q1 : ((65535 : Int) < (b.lc.length : Int)) = False := eq_false (by omega)
  rw [if_neg h1] at hy
  refine tq (cj3 @i64.eq_1 hml q1) ?_; intro Nx hNx Gx hGx
  intro c3 hc3
  refine hNx _ ?_
  have hc3' : (H.upd c3 (.map [])) c3 = some (.map []) := Heap.upd_same _ _ _
  refine tq (cj2 @i64.eq_1 hml) ?_; intro Nx hNx Gx hGx
  refine W_loopN b.lc.length (fun i s => s.df = [] ∧ s.fr 1 = .rp [strD b.nm, .seq 1 (b.rg.map sD), .seq 2 (b.ol.map pD), .seq 5 (b.ty.map tyD), .seq 2 (b.lc.map lcD), i64 b.ag, .seq 7 (b.bl.map bkD)] ∧ s.fr 3 = .val (.map (some c3)) ∧ s.fr 12 = .seq 2 (b.lc.map lcD) ∧ s.fr 13 = i64 b.lc.length ∧ s.fr 14 = i64 i ∧ H.le s.H ∧ ∃ M S, s.H c3 = some (.map M) ∧ StrM M (seenS S) ∧ lcsE b.ty.length [] b.lc = lcsE b.ty.length S (b.lc.drop i)) ⟨rfl, rfl, rfl, rfl, rfl, rfl, Heap.le_new hle hc3, [], [], hc3', StrM.nil.congr seenS_nil, rfl⟩ ?_
  rintro i s hi ⟨hdf, f1, f3, f12, f13, f14, hleS, M, S, hM, hS, ha⟩
  have hx : (i : Int).toNat = i := Int.toNat_natCast _
  have h00 : (0 : Int) ≤ (i : Int) := Int.natCast_nonneg _
  by_cases hil : i < b.lc.length
  case neg =>
    have q6 : ((i : Int) < (b.lc.length : Int)) = False := eq_false (by omega)
    rw [List.drop_eq_nil_of_le (by omega), lcsE] at ha
    rw [ha, if_neg (fun h => h rfl)] at hy
    by_cases h2 : b.ag < 0
    · have q2 : (b.ag < 0) = True := eq_true h2
      have e : y = 3 := hy.trans (if_pos (.inl h2))
      refine tq (cj6 f1 f13 f14 @i64.eq_1 q6 q2) ?_; intro Nx hNx Gx hGx
      refine rt hret hdf ?_
      exact ⟨_, Heap.le_refl _, hleS, _, frz_refl hleS, by rw [e]; rfl⟩
    have q2 : (b.ag < 0) = False := eq_false h2
    by_cases h3 : (b.lc.length : Int) < b.ag
    · have q3 : ((b.lc.length : Int) < b.ag) = True := eq_true h3
      have e : y = 3 := hy.trans (if_pos (.inr h3))
      refine tq (cj8 f1 f13 f14 @i64.eq_1 q6 q2 q3 hml) ?_; intro Nx hNx Gx hGx
      refine rt hret hdf ?_
      exact ⟨_, Heap.le_refl _, hleS, _, frz_refl hleS, by rw [e]; rfl⟩
    have q3 : ((b.lc.length : Int) < b.ag) = False := eq_false h3
    have e : y = 0 := hy.trans (if_neg (by omega))
    refine tq (cj8 f1 f13 f14 @i64.eq_1 q6 q2 q3 hml) ?_; intro Nx hNx Gx hGx
    refine rt hret hdf ?_
    exact ⟨_, Heap.le_refl _, hleS, _, frz_refl hleS, by rw [e]; rfl⟩
  have hil' : (i : Int) < (b.lc.length : Int) := by omega
  have q6 : ((i : Int) < (b.lc.length : Int)) = True := eq_true hil'
  have w3 : IntKind.i64.wrap ((i : Int) + 1) = ((i + 1 : Nat) : Int) := by rw [wrap_i64_of (by omega)]; omega
  have hgi := lc_get hil
  have hbi := hs b.lc[i] (List.getElem_mem hil)
  rw [List.drop_eq_getElem_cons hil, lcsE] at ha
  obtain ⟨x, hxx⟩ : ∃ x, x = b.lc[i] := ⟨_, rfl⟩
  rw [← hxx] at hgi hbi ha
  clear hxx
  obtain ⟨x, xt⟩ := x
  simp only at hbi ha
  simp only [lcD, strD] at hgi
  have hid := isid_N x s.H hbi
  simp only [strD] at hid
  obtain ⟨v, hv⟩ : ∃ v, v = isId x := ⟨_, rfl⟩
  rw [← hv] at hid ha
  have bad : ∀ z : Int, z ≠ 0 → lcsE b.ty.length [] b.lc = z → y = z := fun z hz h => by rw [h, if_pos hz] at hy; exact hy
  refine tq (cj12 f3 f12 f13 f14 @i64.eq_1 hml q6 hgi hx h00 hil hil') ?_; intro Nx hNx Gx hGx
  intro c5 hc5
  refine hNx _ ?_
  refine frz 5 hc5 ?_
  refine tq @i64.eq_1 ?_; intro Nx hNx Gx hGx
  refine hid.mono ?_
  rintro d _ ⟨rfl, rfl⟩
  cases v
  · rw [if_pos rfl] at ha
    have e := bad 12 (by decide) ha
    refine tq @i64.eq_1 ?_; intro Nx hNx Gx hGx
    refine rt hret hdf ?_
    exact ⟨_, Heap.le_refl _, hleS, _, frz_refl hleS, by rw [e]; rfl⟩
  rw [if_neg (fun h => by cases h)] at ha
  have hk := hS.ok (P := Tryz.prog) Tryz.underlying9 hbi
  have hlk := hS.get x
  by_cases hm : x ∈ S
  · rw [show seenS S x = some (.val (.bool true)) from if_pos hm] at hlk
    rw [if_pos (ixS_lt.2 hm)] at ha
    have e := bad 21 (by decide) ha
    refine tq (cj4 f3 @i64.eq_1 hM hlk) ?_; intro Nx hNx Gx hGx
    refine ⟨hk, ?_⟩
    refine tq @i64.eq_1 ?_; intro Nx hNx Gx hGx
    refine rt hret hdf ?_
    exact ⟨_, Heap.le_refl _, hleS, _, frz_refl hleS, by rw [e]; rfl⟩
  rw [show seenS S x = none from if_neg hm] at hlk
  rw [if_neg (fun h => hm (ixS_lt.1 h))] at ha
  by_cases h2 : xt < 0
  · have q2 : (xt < 0) = True := eq_true h2
    rw [if_pos (by unfold InR; omega)] at ha
    have e := bad 3 (by decide) ha
    refine tq (cj4 f3 @i64.eq_1 hM hlk) ?_; intro Nx hNx Gx hGx
    refine ⟨hk, ?_⟩
    refine tq (cj3 f1 @i64.eq_1 q2) ?_; intro Nx hNx Gx hGx
    refine rt hret hdf ?_
    exact ⟨_, Heap.le_refl _, hleS, _, frz_refl hleS, by rw [e]; rfl⟩
  have q2 : (xt < 0) = False := eq_false h2
  by_cases h3 : (b.ty.length : Int) ≤ xt
  · have q3 : (xt ≥ (b.ty.length : Int)) = True := eq_true h3
    rw [if_pos (by unfold InR; omega)] at ha
    have e := bad 3 (by decide) ha
    refine tq (cj4 f3 @i64.eq_1 hM hlk) ?_; intro Nx hNx Gx hGx
    refine ⟨hk, ?_⟩
    refine tq (cj5 f1 @i64.eq_1 q2 q3 hmt) ?_; intro Nx hNx Gx hGx
    refine rt hret hdf ?_
    exact ⟨_, Heap.le_refl _, hleS, _, frz_refl hleS, by rw [e]; rfl⟩
  have q3 : (xt ≥ (b.ty.length : Int)) = False := eq_false h3
  rw [if_neg (by unfold InR; omega)] at ha
  refine tq (cj4 f3 @i64.eq_1 hM hlk) ?_; intro Nx hNx Gx hGx
  refine ⟨hk, ?_⟩
  refine tq (cj7 f1 f3 @i64.eq_1 hM q2 q3 hmt) ?_; intro Nx hNx Gx hGx
  refine ⟨hk, ?_⟩
  have hMy : StrM (mset M (.string x) (.val (.bool true))) (seenS (S ++ [x])) := (hS.set hbi (.val (.bool true))).congr (seenS_snoc x _)
  obtain ⟨M4, hM4⟩ : ∃ M4, M4 = mset M (.string x) (.val (.bool true)) := ⟨_, rfl⟩
  rw [← hM4] at hMy ⊢
  have hm4 : (s.H.upd c3 (.map M4)) c3 = some (.map M4) := Heap.upd_same _ _ _
  have hle4 : H.le (s.H.upd c3 (.map M4)) := Heap.le_put hleS hc3
  refine tq (cj3 f14 @i64.eq_1 w3) ?_; intro Nx hNx Gx hGx
  exact ⟨hil, hdf, f1, f3, f12, f13, rfl, hle4, M4, _, hm4, hMy, ha⟩
end Go.Proofs.YtgfhgeelfaalmaaGreatDoor
