/- Lemmas and contracts of functions, several texts in one: U3 U4. -/
import Derived.Test.YtgfhgeelfaalmaaGreatDoorK37
import Derived.Test.YtgfhgeelfaalmaaGreatDoorK16
import Derived.Test.YtgfhgeelfaalmaaGreatDoorK21
namespace Go.Proofs.YtgfhgeelfaalmaaGreatDoor
open Go.RowKit
set_option maxRecDepth 100000
set_option linter.unusedVariables false
set_option linter.unusedSimpArgs false
set_option maxHeartbeats 1000000 in
theorem teq_N (a b : TyS) (H : Heap) (hal : a.ar.length ≤ 140737488351232) : Does Tryz.prog 107 [.agg (tyD a), .agg (tyD b)] H fun d H' => d = .val (.bool (decide (a = b))) ∧ H = H' := by
  refine Does.frz (K := fun d => d = .val (.bool (decide (a = b)))) ?_
  obtain ⟨ak, am, ar, ae, aa⟩ := a
  obtain ⟨bk, bm, br, be, ba⟩ := b
  have hext := tyS_ext (a := ⟨ak, am, ar, ae, aa⟩) (b := ⟨bk, bm, br, be, ba⟩)
  simp only at hext hal
  simp only [tyD]
  have hle := Heap.le_refl H
  refine does_of _ _ Tryz.func107 rfl rfl Tryz.ntmps107 Tryz.results107 (by simp only [List.length_cons, List.length_nil]; omega) fun w0 g0 Q hret => ?_
  refine tq @i64.eq_1 ?_; intro Nx hNx Gx hGx
  intro c2 hc2 c3 hc3
  have hne : c2 ≠ c3 := Heap.ne_of (Heap.upd_same _ _ _) hc3
  have hc30 : H c3 = none := (Heap.upd_none.1 hc3).2
  refine hNx _ ?_
  refine W_frzp 2 rfl ((Heap.upd_ne hne).trans (Heap.upd_same _ _ _)) rfl ?_
  refine W_frzp 3 rfl ((Heap.del_ne hne.symm).trans (Heap.upd_same _ _ _)) rfl ?_
  refine W_less H (fun x z hz => ?_) ?_
  · have e1 : x ≠ c2 := fun e => by rw [e, hc2] at hz; cases hz
    have e2 : x ≠ c3 := fun e => by rw [e, hc30] at hz; cases hz
    show ((((H.upd c2 _).upd c3 _).del c2).del c3) x = _
    rw [Heap.del_ne e2, Heap.del_ne e1, Heap.upd_ne e2, Heap.upd_ne e1]
    exact hz
  simp only [St.frzp, List.drop]
  by_cases g1 : ak = bk
  case neg =>
    have q1 : (ak = bk) = False := eq_false g1
    have hres : decide ((⟨ak, am, ar, ae, aa⟩ : TyS) = ⟨bk, bm, br, be, ba⟩) = false := decide_eq_false fun h => g1 (hext.1 h).1
    refine tq (cj2 @i64.eq_1 q1) ?_; intro Nx hNx Gx hGx; refine rt hret @i64.eq_1 ?_; exact ⟨_, Heap.le_refl _, hle, _, frz_refl hle, by rw [hres]⟩
  have q1 : (ak = bk) = True := eq_true g1
  by_cases g2 : am = bm
  case neg =>
    have q2 : (am = bm) = False := eq_false g2
    have hres : decide ((⟨ak, am, ar, ae, aa⟩ : TyS) = ⟨bk, bm, br, be, ba⟩) = false := decide_eq_false fun h => g2 (hext.1 h).2.1
    refine tq (cj3 @i64.eq_1 q1 q2) ?_; intro Nx hNx Gx hGx; refine rt hret @i64.eq_1 ?_; exact ⟨_, Heap.le_refl _, hle, _, frz_refl hle, by rw [hres]⟩
  have q2 : (am = bm) = True := eq_true g2
  by_cases g3 : ar = br
  case neg =>
    have q3 : (ar = br) = False := eq_false g3
    have hres : decide ((⟨ak, am, ar, ae, aa⟩ : TyS) = ⟨bk, bm, br, be, ba⟩) = false := decide_eq_false fun h => g3 (hext.1 h).2.2.1
    refine tq (cj4 @i64.eq_1 q1 q2 q3) ?_; intro Nx hNx Gx hGx; refine rt hret @i64.eq_1 ?_; exact ⟨_, Heap.le_refl _, hle, _, frz_refl hle, by rw [hres]⟩
  have q3 : (ar = br) = True := eq_true g3
  by_cases g4 : ae = be
  case neg =>
    have q4 : (ae = be) = False := eq_false g4
    have hres : decide ((⟨ak, am, ar, ae, aa⟩ : TyS) = ⟨bk, bm, br, be, ba⟩) = false := decide_eq_false fun h => g4 (hext.1 h).2.2.2.1
    refine tq (cj5 @i64.eq_1 q1 q2 q3 q4) ?_; intro Nx hNx Gx hGx; refine rt hret @i64.eq_1 ?_; exact ⟨_, Heap.le_refl _, hle, _, frz_refl hle, by rw [hres]⟩
  have q4 : (ae = be) = True := eq_true g4
  have hres : decide ((⟨ak, am, ar, ae, aa⟩ : TyS) = ⟨bk, bm, br, be, ba⟩) = decide (aa = ba) := by
    have : ((⟨ak, am, ar, ae, aa⟩ : TyS) = ⟨bk, bm, br, be, ba⟩) = (aa = ba) := propext ⟨fun h => (hext.1 h).2.2.2.2, fun h => hext.2 ⟨g1, g2, g3, g4, h⟩⟩
    simp only [this]
  refine tq (cj5 @i64.eq_1 q1 q2 q3 q4) ?_; intro Nx hNx Gx hGx
  refine (equalI_at H aa ba hal).mono ?_
  rintro d _ ⟨rfl, rfl⟩
  refine tq @i64.eq_1 ?_; intro Nx hNx Gx hGx
  refine rt hret @i64.eq_1 ?_
  exact ⟨_, Heap.le_refl _, hle, _, frz_refl hle, by rw [hres]⟩
theorem fnd1_N (x t : TyS) (H : Heap) (hal : x.ar.length ≤ 140737488351232) : Does Tryz.prog 106 [.agg (tyD x), .rp (tyD t)] H fun d H' => d = .val (.bool (decide (x = t))) ∧ H = H' := by
  refine Does.frz (K := fun d => d = .val (.bool (decide (x = t)))) ?_
  have hq := teq_N x t H hal
  obtain ⟨xk, xm, xr, xe, xa⟩ := x
  obtain ⟨tk, tm, tr, te, ta⟩ := t
  simp only [tyD] at hq ⊢
  have hle := Heap.le_refl H
  refine does_of _ _ Tryz.func106 rfl rfl Tryz.ntmps106 Tryz.results106 (by simp only [List.length_cons, List.length_nil]; omega) fun w0 g0 Q hret => ?_
  refine tq @i64.eq_1 ?_; intro Nx hNx Gx hGx
  intro c2 hc2
  refine hNx _ ?_
  refine frz 2 hc2 ?_
  refine tq @i64.eq_1 ?_; intro Nx hNx Gx hGx
  refine hq.mono ?_
  rintro d _ ⟨rfl, rfl⟩
  refine tq @i64.eq_1 ?_; intro Nx hNx Gx hGx
  refine rt hret @i64.eq_1 ?_
  exact ⟨_, Heap.le_refl _, hle, _, frz_refl hle, rfl⟩
theorem idxT_N (ts : List TyS) (t : TyS) (H : Heap) (htl : ts.length ≤ 140737488351232) (har : ∀ u ∈ ts, u.ar.length ≤ 140737488351232) : Does Tryz.prog 105 [.seq 5 (ts.map tyD), .fn 106 [.rp (tyD t)]] H fun d H' => d = i64 (fndI t ts 0) ∧ H = H' := by
  refine Does.frz (K := fun d => d = i64 (fndI t ts 0)) ?_
  have htyl : (List.map tyD ts).length = ts.length := List.length_map _
  have hle := Heap.le_refl H
  refine does_of _ _ Tryz.func105 rfl rfl Tryz.ntmps105 Tryz.results105 (by simp only [List.length_cons, List.length_nil]; omega) fun w0 g0 Q hret => ?_
  refine tq (cj2 @i64.eq_1 htyl) ?_; intro Nx hNx Gx hGx
  refine W_loopN ts.length (fun i s => s.df = [] ∧ s.fr 0 = .seq 5 (ts.map tyD) ∧ s.fr 1 = .fn 106 [.rp (tyD t)] ∧ s.fr 7 = i64 ts.length ∧ s.fr 8 = i64 i ∧ s.H = H ∧ fndI t ts 0 = fndI t (ts.drop i) i) ⟨rfl, rfl, rfl, rfl, rfl, rfl, rfl⟩ ?_
  rintro i s hi ⟨hdf, f0, f1, f7, f8, hH, hf⟩
  have hx : (i : Int).toNat = i := Int.toNat_natCast _
  have h00 : (0 : Int) ≤ (i : Int) := Int.natCast_nonneg _
  have hleS : H.le s.H := by rw [hH]; exact Heap.le_refl _
  by_cases hil : i < ts.length
  case neg =>
    have q6 : ((i : Int) < (ts.length : Int)) = False := eq_false (by omega)
    rw [List.drop_eq_nil_of_le (by omega)] at hf
    refine tq (cj4 f7 f8 @i64.eq_1 q6) ?_; intro Nx hNx Gx hGx
    refine rt hret hdf ?_
    exact ⟨_, Heap.le_refl _, hleS, _, frz_refl hleS, by rw [hf]; rfl⟩
  have q6 : ((i : Int) < (ts.length : Int)) = True := eq_true (by omega)
  have w3 : IntKind.i64.wrap ((i : Int) + 1) = ((i + 1 : Nat) : Int) := by rw [wrap_i64_of (by omega)]; omega
  have hui := har ts[i] (List.getElem_mem hil)
  have hgi : (ts.map tyD)[i]? = some (tyD ts[i]) := by rw [List.getElem?_map, List.getElem?_eq_getElem hil]; rfl
  rw [List.drop_eq_getElem_cons hil, fndI] at hf
  obtain ⟨u, hu⟩ : ∃ u, u = ts[i] := ⟨_, rfl⟩
  rw [← hu] at hgi hf hui
  have hq := fnd1_N u t s.H hui
  obtain ⟨uk, um, ur, ue, ua⟩ := u
  obtain ⟨tk, tm, tr, te, ta⟩ := t
  simp only [tyD] at hgi f1 hq
  refine tq (cj11 f0 f1 f7 f8 @i64.eq_1 htyl q6 hgi hx h00 hil) ?_; intro Nx hNx Gx hGx
  refine hq.mono ?_
  rintro d _ ⟨rfl, rfl⟩
  by_cases he : (⟨uk, um, ur, ue, ua⟩ : TyS) = ⟨tk, tm, tr, te, ta⟩
  · rw [if_pos he] at hf
    rw [decide_eq_true he]
    refine tq (cj2 f8 @i64.eq_1) ?_; intro Nx hNx Gx hGx
    refine rt hret hdf ?_
    exact ⟨_, Heap.le_refl _, hleS, _, frz_refl hleS, by rw [hf]; rfl⟩
  · rw [if_neg he] at hf
    rw [decide_eq_false he]
    refine tq (cj3 f8 @i64.eq_1 w3) ?_; intro Nx hNx Gx hGx
    exact ⟨hil, hdf, f0, f1, f7, rfl, hH, hf⟩
theorem find_N (ts : List TyS) (t : TyS) (H : Heap) (htl : ts.length ≤ 140737488351232) (har : ∀ u ∈ ts, u.ar.length ≤ 140737488351232) : Does Tryz.prog 76 [.seq 5 (ts.map tyD), .agg (tyD t)] H fun d H' => d = .tup [i64 (max (fndI t ts 0) 0), .val (.bool (decide (t ∈ ts)))] ∧ H = H' := by
  refine Does.frz (K := fun d => d = .tup [i64 (max (fndI t ts 0) 0), .val (.bool (decide (t ∈ ts)))]) ?_
  have hq := idxT_N ts t H htl har
  have hfl := fndI_iff (t := t) (l := ts)
  obtain ⟨r, hr⟩ : ∃ r, r = fndI t ts 0 := ⟨_, rfl⟩
  rw [← hr] at hq hfl ⊢
  obtain ⟨tk, tm, tr, te, ta⟩ := t
  simp only [tyD] at hq ⊢
  have hle := Heap.le_refl H
  refine does_of _ _ Tryz.func76 rfl rfl Tryz.ntmps76 Tryz.results76 (by simp only [List.length_cons, List.length_nil]; omega) fun w0 g0 Q hret => ?_
  refine tq @i64.eq_1 ?_; intro Nx hNx Gx hGx
  intro c2 hc2
  refine hNx _ ?_
  refine frz 3 hc2 ?_
  refine tq @i64.eq_1 ?_; intro Nx hNx Gx hGx
  refine hq.mono ?_
  rintro d _ ⟨rfl, rfl⟩
  by_cases h0 : 0 ≤ r
  · have q0 : (0 ≤ r) = True := eq_true h0
    refine tq (cj2 @i64.eq_1 q0) ?_; intro Nx hNx Gx hGx
    refine rt hret @i64.eq_1 ?_
    exact ⟨_, Heap.le_refl _, hle, _, frz_refl hle, by rw [decide_eq_true (hfl.1 h0)]⟩
  · have q0 : (0 ≤ r) = False := eq_false h0
    refine tq (cj2 @i64.eq_1 q0) ?_; intro Nx hNx Gx hGx
    refine rt hret @i64.eq_1 ?_
    exact ⟨_, Heap.le_refl _, hle, _, frz_refl hle, by rw [decide_eq_false fun h => h0 (hfl.2 h)]⟩
def CK (H0 : Heap) (b : Nat) (n : Int) (ds : List Int) (H : Heap) : Prop :=
  ∃ d ob, H b = some (.row 118 0 2 [[i64 n, d]]) ∧ Gl H0 3 1 (ds.map iD) d H ob ∧ H0 b = none ∧ H0.le H ∧ ob ≠ some b
theorem depth_N (n : Int) (ds l : List Int) (b : Nat) (ob : Option Nat) (d : D) (H0 H : Heap) (hb : H b = some (.row 118 0 2 [[i64 n, d]])) (hg : Gl H0 3 1 (ds.map iD) d H ob) (hl : l.length ≤ 140737488351232) (hdl : ds.length ≤ 140737488351232) :
    Does Tryz.prog 104 [.ep b 0 2 0 0, .seq 1 (l.map iD)] H fun r H' => r = .tup (if ∀ f ∈ l, 0 ≤ f ∧ f < ds.length then [i64 (l.foldl (kidF ds) 0), .val (.bool true)] else [i64 0, .val (.bool false)]) ∧ H' = H := by
  have hll : (List.map iD l).length = l.length := List.length_map _
  have hdm : (List.map iD ds).length = ds.length := List.length_map _
  refine does_of _ _ Tryz.func104 rfl rfl Tryz.ntmps104 Tryz.results104 (by simp only [List.length_cons, List.length_nil]; omega) fun w0 g0 Q hret => ?_
  refine tq (cj2 @i64.eq_1 hll) ?_; intro Nx hNx Gx hGx
  refine W_loopN l.length (fun i s => s.df = [] ∧ s.fr 0 = .ep b 0 2 0 0 ∧ s.fr 6 = i64 ((l.take i).foldl (kidF ds) 0) ∧ s.fr 9 = .seq 1 (l.map iD) ∧ s.fr 10 = i64 l.length ∧ s.fr 11 = i64 i ∧ s.H = H ∧ ∀ m (h : m < l.length), m < i → 0 ≤ l[m] ∧ l[m] < ds.length) ⟨rfl, rfl, rfl, rfl, rfl, rfl, rfl, fun m h h' => by omega⟩ ?_
  rintro i s hi ⟨hdf, f0, f6, f9, f10, f11, hH, hall⟩
  have hx : (i : Int).toNat = i := Int.toNat_natCast _
  have h00 : (0 : Int) ≤ (i : Int) := Int.natCast_nonneg _
  by_cases hil : i < l.length
  case neg =>
    have q1 : ((i : Int) < (l.length : Int)) = False := eq_false (by omega)
    have ha : ∀ f ∈ l, 0 ≤ f ∧ f < ds.length := fun f hf => by
      obtain ⟨m, hm, rfl⟩ := List.getElem_of_mem hf
      exact hall m hm (by omega)
    rw [List.take_of_length_le (by omega)] at f6
    refine tq (cj5 f6 f10 f11 @i64.eq_1 q1) ?_; intro Nx hNx Gx hGx
    refine rt hret hdf ?_
    exact ⟨_, Heap.le_refl _, by rw [if_pos ha]; rfl, hH⟩
  have q1 : ((i : Int) < (l.length : Int)) = True := eq_true (by omega)
  have w3 : IntKind.i64.wrap ((i : Int) + 1) = ((i + 1 : Nat) : Int) := by rw [wrap_i64_of (by omega)]; omega
  have hgi := get_ints hil
  have hbs : s.H b = some (.row 118 0 2 [[i64 n, d]]) := by rw [hH]; exact hb
  have hgs : Gl H0 3 1 (ds.map iD) d s.H ob := by rw [hH]; exact hg
  obtain ⟨f, hf⟩ : ∃ f, f = l[i] := ⟨_, rfl⟩
  have hmem : f ∈ l := by rw [hf]; exact List.getElem_mem hil
  have hall2 : 0 ≤ f ∧ f < ds.length → ∀ m (h : m < l.length), m < i + 1 → 0 ≤ l[m] ∧ l[m] < ds.length := fun h m hm hmi => by
    by_cases e : m = i
    · subst e; rw [← hf]; exact h
    · exact hall m hm (by omega)
  have hfold : (l.take (i + 1)).foldl (kidF ds) 0 = max ((l.take i).foldl (kidF ds) 0) (ds.getD f.toNat 0) := by
    rw [List.take_succ_eq_append_getElem hil, List.foldl_append, ← hf]; rfl
  rw [← hf] at hgi
  obtain ⟨mx, hmx⟩ : ∃ mx, mx = (l.take i).foldl (kidF ds) 0 := ⟨_, rfl⟩
  rw [← hmx] at f6 hfold
  by_cases h1 : f < 0
  · have q2 : (f < 0) = True := eq_true h1
    have hn : ¬ ∀ f ∈ l, 0 ≤ f ∧ f < ds.length := fun h => by have := h f hmem; omega
    refine tq (cj13 f0 f6 f9 f10 f11 @i64.eq_1 q1 hgi hx h00 hil hll q2) ?_; intro Nx hNx Gx hGx
    refine rt hret hdf ?_
    exact ⟨_, Heap.le_refl _, by rw [if_neg hn]; rfl, hH⟩
  have q2 : (f < 0) = False := eq_false h1
  by_cases h2 : f < ds.length
  case neg =>
    have hn : ¬ ∀ f ∈ l, 0 ≤ f ∧ f < ds.length := fun h => by have := h f hmem; omega
    rcases hgs with ⟨_, hd, h0⟩ | ⟨c, o, _, hd, h0, hHc⟩
    · have hdn : ds = [] := by simpa using h0
      have q3 : (0 ≤ f) = True := eq_true (by omega)
      rw [hd] at hbs
      refine tq (cj15 f0 f6 f9 f10 f11 @i64.eq_1 q1 hgi hx h00 hil hll q2 q3 hbs) ?_; intro Nx hNx Gx hGx
      refine rt hret hdf ?_
      exact ⟨_, Heap.le_refl _, by rw [if_neg hn]; rfl, hH⟩
    · have q3 : ((ds.length : Int) ≤ f) = True := eq_true (by omega)
      rw [hd, hdm] at hbs
      refine tq (cj15 f0 f6 f9 f10 f11 @i64.eq_1 q1 hgi hx h00 hil hll q2 q3 hbs) ?_; intro Nx hNx Gx hGx
      refine rt hret hdf ?_
      exact ⟨_, Heap.le_refl _, by rw [if_neg hn]; rfl, hH⟩
  have q3 : ((ds.length : Int) ≤ f) = False := eq_false (by omega)
  obtain ⟨c, o, hd, h0, hHc⟩ := Gl.os hgs (by omega)
  have hgd := getD_ints (d := ds) (i := f.toNat) (by omega)
  have h0f : 0 ≤ f := by omega
  have hfl : f.toNat < ds.length := by omega
  rw [hd] at hbs
  refine tq (cj22 f0 f6 f9 f10 f11 @i64.eq_1 q1 hgi hx h00 hil hll q2 q3 hbs hHc hgd h0f hfl h2 hdm w3) ?_; intro Nx hNx Gx hGx
  exact ⟨hil, hdf, f0, by rw [hfold]; rfl, f9, f10, rfl, hH, hall2 ⟨h0f, h2⟩⟩
open Classical in
noncomputable def chkA (ps : List TyS) (n : Int) (t : TyS) : Nat :=
  if t.k < 0 ∨ 4 < t.k then 14
  else if (t.k ≠ 3 ∧ (t.m = true ∨ t.r ≠ 0 ∨ t.e ≠ 0)) ∨ (t.k ≠ 4 ∧ 0 < t.ar.length) then 2
  else if t.k = 3 ∧ (t.r < 0 ∨ n ≤ t.r) then 3
  else if ¬ ∀ f ∈ parA t, 0 ≤ f ∧ f < ps.length then 3
  else if t.k = 4 ∧ (t.ar.length = 0 ∨ 65535 < t.ar.length) then 15
  else if 32 ≤ kidM (depL ps) t then 19
  else 0
theorem chk1_A {ps : List TyS} {n : Int} {t : TyS} : chk1 ps n t = if chkA ps n t = 0 then (if t ∈ ps then 21 else 0) else chkA ps n t := by
  unfold chk1 chkA
  by_cases h1 : t.k < 0 ∨ 4 < t.k
  · rw [if_pos h1, if_pos h1]; simp
  rw [if_neg h1, if_neg h1]
  by_cases h2 : (t.k ≠ 3 ∧ (t.m = true ∨ t.r ≠ 0 ∨ t.e ≠ 0)) ∨ (t.k ≠ 4 ∧ 0 < t.ar.length)
  · rw [if_pos h2, if_pos h2]; simp
  rw [if_neg h2, if_neg h2]
  by_cases h3 : t.k = 3 ∧ (t.r < 0 ∨ n ≤ t.r)
  · rw [if_pos h3, if_pos ⟨h3.1, by omega⟩]; simp
  rw [if_neg h3]
  have hkm : 32 < kidM (depL ps) t + 1 ↔ 32 ≤ kidM (depL ps) t := by omega
  have hfin : (if t.k = 4 ∧ (t.ar.length = 0 ∨ 65535 < t.ar.length) then 15 else if 32 < kidM (depL ps) t + 1 then 19 else if t ∈ ps then 21 else 0) =
      if (if t.k = 4 ∧ (t.ar.length = 0 ∨ 65535 < t.ar.length) then 15 else if 32 ≤ kidM (depL ps) t then 19 else 0) = 0 then (if t ∈ ps then 21 else 0) else (if t.k = 4 ∧ (t.ar.length = 0 ∨ 65535 < t.ar.length) then 15 else if 32 ≤ kidM (depL ps) t then 19 else 0) := by
    by_cases h5 : t.k = 4 ∧ (t.ar.length = 0 ∨ 65535 < t.ar.length)
    · simp only [if_pos h5]; simp
    simp only [if_neg h5]
    by_cases h6 : 32 ≤ kidM (depL ps) t
    · simp only [if_pos h6, if_pos (hkm.2 h6)]; simp
    · simp only [if_neg h6, if_neg (fun h => h6 (hkm.1 h))]; simp
  by_cases h4 : ∀ f ∈ parA t, 0 ≤ f ∧ f < ps.length
  · rw [if_neg (show ¬¬ _ from fun h => h h4)]
    have h5 : ¬ (t.k = 3 ∧ (t.r < 0 ∨ n ≤ t.r ∨ t.e < 0 ∨ (ps.length : Int) ≤ t.e)) := by
      rintro ⟨a, b⟩
      have := h4 t.e (by unfold parA; rw [if_pos a]; simp)
      exact h3 ⟨a, by omega⟩
    have h6 : ¬ ∃ f ∈ t.ar, f < 0 ∨ (ps.length : Int) ≤ f := by
      rintro ⟨f, hf, hb⟩
      by_cases hk : t.k = 3
      · have : t.ar.length = 0 := by have h7 : ¬ (t.k ≠ 4 ∧ 0 < t.ar.length) := fun h8 => h2 (.inr h8); omega
        rw [List.eq_nil_of_length_eq_zero this] at hf; cases hf
      · have := h4 f (by unfold parA; rw [if_neg hk]; exact hf)
        omega
    rw [if_neg h5, if_neg h6]
    exact hfin
  · rw [if_pos h4]
    by_cases hk : t.k = 3
    · have he : ¬ (0 ≤ t.e ∧ t.e < ps.length) := fun h => h4 fun f hf => by
        unfold parA at hf
        rw [if_pos hk, List.mem_singleton] at hf
        rw [hf]; exact h
      rw [if_pos ⟨hk, by omega⟩]; simp
    · have h5 : ¬ (t.k = 3 ∧ (t.r < 0 ∨ n ≤ t.r ∨ t.e < 0 ∨ (ps.length : Int) ≤ t.e)) := fun h => hk h.1
      have h6 : ∃ f ∈ t.ar, f < 0 ∨ (ps.length : Int) ≤ f := Classical.byContradiction fun hn => h4 fun f hf => by
        unfold parA at hf
        rw [if_neg hk] at hf
        exact Classical.byContradiction fun hb => hn ⟨f, hf, by omega⟩
      rw [if_neg h5, if_pos h6]; simp
theorem kidM_par {d : List Int} {t : TyS} (h : t.k = 3 → t.ar = []) (h0 : ∀ x ∈ d, 0 ≤ x) : kidM d t = (parA t).foldl (kidF d) 0 := by
  unfold kidM parA
  by_cases h3 : t.k = 3
  · rw [if_pos h3, if_pos h3, h h3]
    have := getD_ge h0 (Int.le_refl _) t.e.toNat
    simp only [List.foldl_nil, List.foldl_cons, kidF]
    omega
  · rw [if_neg h3, if_neg h3]
end Go.Proofs.YtgfhgeelfaalmaaGreatDoor
