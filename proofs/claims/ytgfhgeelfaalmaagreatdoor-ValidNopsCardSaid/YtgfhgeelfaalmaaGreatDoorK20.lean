/- Lemmas and contracts of functions, several texts in one: Y2 Y3. -/
import Derived.Test.YtgfhgeelfaalmaaGreatDoorK07
import Derived.Test.YtgfhgeelfaalmaaGreatDoorK05
namespace Go.Proofs.YtgfhgeelfaalmaaGreatDoor
open Go.RowKit
set_option maxRecDepth 100000
set_option linter.unusedVariables false
set_option linter.unusedSimpArgs false
theorem tyS_ext {a b : TyS} : a = b ↔ a.k = b.k ∧ a.m = b.m ∧ a.r = b.r ∧ a.e = b.e ∧ a.ar = b.ar := by
  cases a; cases b; simp
theorem take_snoc_eq {l m : List Int} {i : Nat} (h : l.take i = m.take i) (h1 : i < l.length) (h2 : i < m.length) (he : l[i] = m[i]) : l.take (i + 1) = m.take (i + 1) := by
  rw [List.take_succ_eq_append_getElem h1, List.take_succ_eq_append_getElem h2, h, he]
set_option maxHeartbeats 1000000 in
theorem kteq_N (a b : TyS) (H : Heap) (hal : a.ar.length ≤ 140737488351232) : Does Tryz.prog 94 [.agg (tyD a), .agg (tyD b)] H fun d H' => d = .val (.bool (decide (a = b))) ∧ H = H' := by
  refine Does.frz (K := fun d => d = .val (.bool (decide (a = b)))) ?_
  obtain ⟨ak, am, ar, ae, aa⟩ := a
  obtain ⟨bk, bm, br, be, ba⟩ := b
  have hext := tyS_ext (a := ⟨ak, am, ar, ae, aa⟩) (b := ⟨bk, bm, br, be, ba⟩)
  simp only at hext hal
  simp only [tyD]
  have hla : (List.map iD aa).length = aa.length := List.length_map _
  have hlb : (List.map iD ba).length = ba.length := List.length_map _
  have hle := Heap.le_refl H
  refine does_of _ _ Tryz.func94 rfl rfl Tryz.ntmps94 Tryz.results94 (by simp only [List.length_cons, List.length_nil]; omega) fun w0 g0 Q hret => ?_
  refine tq @i64.eq_1 ?_; intro Nx hNx Gx hGx
  intro c2 hc2 c3 hc3
  have hne : c2 ≠ c3 := Heap.ne_of (Heap.upd_same _ _ _) hc3
  have hc30 : H c3 = none := (Heap.upd_none.1 hc3).2
  refine hNx _ ?_
  refine W_frzp 2 rfl ((Heap.upd_ne hne).trans (Heap.upd_same _ _ _)) rfl ?_
  refine W_frzp 3 rfl ((Heap.del_ne hne.symm).trans (Heap.upd_same _ _ _)) rfl ?_
  refine W_less H (fun x z hz => ?_) ?_
  · have e1 : x ≠ c2 := fun e => by rw [e, hc2] at hz; cases hz
    have e2 : x ≠ c3 := fun e => by rw [e, hc30] at hz; cases hz
    show ((((H.upd c2 _).upd c3 _).del c2).del c3) x = _
    rw [Heap.del_ne e2, Heap.del_ne e1, Heap.upd_ne e2, Heap.upd_ne e1]
    exact hz
  simp only [St.frzp, List.drop]
  by_cases g1 : ak = bk
  case neg =>
    have q1 : (ak = bk) = False := eq_false g1
    have hres : decide ((⟨ak, am, ar, ae, aa⟩ : TyS) = ⟨bk, bm, br, be, ba⟩) = false := decide_eq_false fun h => g1 (hext.1 h).1
    refine tq (cj2 @i64.eq_1 q1) ?_; intro Nx hNx Gx hGx; refine rt hret @i64.eq_1 ?_; exact ⟨_, Heap.le_refl _, hle, _, frz_refl hle, by rw [hres]⟩
  have q1 : (ak = bk) = True := eq_true g1
  by_cases g2 : am = bm
  case neg =>
    have q2 : (am = bm) = False := eq_false g2
    have hres : decide ((⟨ak, am, ar, ae, aa⟩ : TyS) = ⟨bk, bm, br, be, ba⟩) = false := decide_eq_false fun h => g2 (hext.1 h).2.1
    refine tq (cj3 @i64.eq_1 q1 q2) ?_; intro Nx hNx Gx hGx; refine rt hret @i64.eq_1 ?_; exact ⟨_, Heap.le_refl _, hle, _, frz_refl hle, by rw [hres]⟩
  have q2 : (am = bm) = True := eq_true g2
  by_cases g3 : ar = br
  case neg =>
    have q3 : (ar = br) = False := eq_false g3
    have hres : decide ((⟨ak, am, ar, ae, aa⟩ : TyS) = ⟨bk, bm, br, be, ba⟩) = false := decide_eq_false fun h => g3 (hext.1 h).2.2.1
    refine tq (cj4 @i64.eq_1 q1 q2 q3) ?_; intro Nx hNx Gx hGx; refine rt hret @i64.eq_1 ?_; exact ⟨_, Heap.le_refl _, hle, _, frz_refl hle, by rw [hres]⟩
  have q3 : (ar = br) = True := eq_true g3
  by_cases g4 : ae = be
  case neg =>
    have q4 : (ae = be) = False := eq_false g4
    have hres : decide ((⟨ak, am, ar, ae, aa⟩ : TyS) = ⟨bk, bm, br, be, ba⟩) = false := decide_eq_false fun h => g4 (hext.1 h).2.2.2.1
    refine tq (cj5 @i64.eq_1 q1 q2 q3 q4) ?_; intro Nx hNx Gx hGx; refine rt hret @i64.eq_1 ?_; exact ⟨_, Heap.le_refl _, hle, _, frz_refl hle, by rw [hres]⟩
  have q4 : (ae = be) = True := eq_true g4
  by_cases g5 : aa.length = ba.length
  case neg =>
    have q5 : ((aa.length : Int) = (ba.length : Int)) = False := eq_false (by omega)
    have hres : decide ((⟨ak, am, ar, ae, aa⟩ : TyS) = ⟨bk, bm, br, be, ba⟩) = false := decide_eq_false fun h => g5 (by rw [(hext.1 h).2.2.2.2])
    refine tq (cj8 @i64.eq_1 hla hlb q1 q2 q3 q4 q5) ?_; intro Nx hNx Gx hGx; refine rt hret @i64.eq_1 ?_; exact ⟨_, Heap.le_refl _, hle, _, frz_refl hle, by rw [hres]⟩
  have q5 : ((aa.length : Int) = (ba.length : Int)) = True := eq_true (by omega)
  refine tq (cj8 @i64.eq_1 hla hlb q1 q2 q3 q4 q5) ?_; intro Nx hNx Gx hGx
  refine W_loopN aa.length (fun i s => s.df = [] ∧ s.fr 2 = .rp [i64 ak, .val (.bool am), i64 ar, i64 ae, .seq 1 (aa.map iD)] ∧ s.fr 3 = .rp [i64 bk, .val (.bool bm), i64 br, i64 be, .seq 1 (ba.map iD)] ∧ s.fr 5 = i64 i ∧ s.H = H ∧ aa.take i = ba.take i) ⟨rfl, rfl, rfl, rfl, rfl, rfl⟩ ?_
  rintro i s hi ⟨hdf, f2, f3, f5, hH, htk⟩
  have hx : (i : Int).toNat = i := Int.toNat_natCast _
  have h00 : (0 : Int) ≤ (i : Int) := Int.natCast_nonneg _
  have hleS : H.le s.H := by rw [hH]; exact hle
  by_cases hil : i < aa.length
  case neg =>
    have q6 : ((i : Int) < (aa.length : Int)) = False := eq_false (by omega)
    rw [List.take_of_length_le (by omega), List.take_of_length_le (by omega)] at htk
    have hres : decide ((⟨ak, am, ar, ae, aa⟩ : TyS) = ⟨bk, bm, br, be, ba⟩) = true := decide_eq_true (hext.2 ⟨g1, g2, g3, g4, htk⟩)
    refine tq (cj5 f2 f5 @i64.eq_1 hla q6) ?_; intro Nx hNx Gx hGx
    refine rt hret hdf ?_
    exact ⟨_, Heap.le_refl _, hleS, _, frz_refl hleS, by rw [hres]⟩
  have q6 : ((i : Int) < (aa.length : Int)) = True := eq_true (by omega)
  have hib : i < ba.length := by omega
  have hga := get_ints hil
  have hgb := get_ints hib
  have w3 : IntKind.i64.wrap ((i : Int) + 1) = ((i + 1 : Nat) : Int) := by rw [wrap_i64_of (by omega)]; omega
  refine tq (cj5 f2 f5 @i64.eq_1 hla q6) ?_; intro Nx hNx Gx hGx
  by_cases he : aa[i] = ba[i]
  case neg =>
    have q7 : (aa[i] = ba[i]) = False := eq_false he
    have hres : decide ((⟨ak, am, ar, ae, aa⟩ : TyS) = ⟨bk, bm, br, be, ba⟩) = false := decide_eq_false fun h => he (by have := (hext.1 h).2.2.2.2; subst this; rfl)
    refine W_drawE (fun _ _ _ _ => False) (by kernel_rfl) (by kernel_rfl) (by kernel_rfl) fun Nx hNx => ?_; refine dst (cj13 f2 f3 f5 @i64.eq_1 hla hlb hga hgb hx h00 hil hib q7) ?_; intro Nx hNx Gx hGx
    refine tq @i64.eq_1 ?_; intro Nx hNx Gx hGx
    refine rt hret hdf ?_
    exact ⟨_, Heap.le_refl _, hleS, _, frz_refl hleS, by rw [hres]⟩
  have q7 : (aa[i] = ba[i]) = True := eq_true he
  refine W_drawE (fun _ _ _ _ => False) (by kernel_rfl) (by kernel_rfl) (by kernel_rfl) fun Nx hNx => ?_; refine dst (cj13 f2 f3 f5 @i64.eq_1 hla hlb hga hgb hx h00 hil hib q7) ?_; intro Nx hNx Gx hGx
  refine tq (cj3 f5 @i64.eq_1 w3) ?_; intro Nx hNx Gx hGx
  exact ⟨hil, hdf, f2, f3, rfl, hH, take_snoc_eq htk hil hib he⟩
set_option maxHeartbeats 1000000 in
theorem kfind_N (ts : List TyS) (t : TyS) (H : Heap) (htl : ts.length ≤ 140737488351232) (har : ∀ u ∈ ts, u.ar.length ≤ 140737488351232) : Does Tryz.prog 71 [.seq 5 (ts.map tyD), .agg (tyD t)] H fun d H' => d = i64 (fndI t ts 0) ∧ H = H' := by
  refine Does.frz (K := fun d => d = i64 (fndI t ts 0)) ?_
  have htyl : (List.map tyD ts).length = ts.length := List.length_map _
  refine does_of _ _ Tryz.func71 rfl rfl Tryz.ntmps71 Tryz.results71 (by simp only [List.length_cons, List.length_nil]; omega) fun w0 g0 Q hret => ?_
  refine tq (cj2 @i64.eq_1 @tyD.eq_1) ?_; intro Nx hNx Gx hGx
  intro c3 hc3
  refine hNx _ ?_
  refine frz 3 hc3 ?_
  refine tq @i64.eq_1 ?_; intro Nx hNx Gx hGx
  refine W_loopN ts.length (fun i s => s.df = [] ∧ s.fr 0 = .seq 5 (ts.map tyD) ∧ s.fr 3 = .rp (tyD t) ∧ s.fr 5 = i64 i ∧ s.H = H ∧ fndI t ts 0 = fndI t (ts.drop i) i) ⟨rfl, rfl, rfl, rfl, rfl, rfl⟩ ?_
  rintro i s hi ⟨hdf, f0, f3, f5, hH, hf⟩
  have hx : (i : Int).toNat = i := Int.toNat_natCast _
  have h00 : (0 : Int) ≤ (i : Int) := Int.natCast_nonneg _
  have hleS : H.le s.H := by rw [hH]; exact Heap.le_refl _
  by_cases hil : i < ts.length
  case neg =>
    have q6 : ((i : Int) < (ts.length : Int)) = False := eq_false (by omega)
    rw [List.drop_eq_nil_of_le (by omega)] at hf
    refine tq (cj5 f0 f5 @i64.eq_1 htyl q6) ?_; intro Nx hNx Gx hGx
    refine rt hret hdf ?_
    exact ⟨_, Heap.le_refl _, hleS, _, frz_refl hleS, by rw [hf]; rfl⟩
  have q6 : ((i : Int) < (ts.length : Int)) = True := eq_true (by omega)
  have w3 : IntKind.i64.wrap ((i : Int) + 1) = ((i + 1 : Nat) : Int) := by rw [wrap_i64_of (by omega)]; omega
  have hui := har ts[i] (List.getElem_mem hil)
  have hgi : (ts.map tyD)[i]? = some (tyD ts[i]) := by rw [List.getElem?_map, List.getElem?_eq_getElem hil]; rfl
  rw [List.drop_eq_getElem_cons hil, fndI] at hf
  obtain ⟨u, hu⟩ : ∃ u, u = ts[i] := ⟨_, rfl⟩
  rw [← hu] at hgi hf hui
  have hcall : CallOK Tryz.prog 94 [.agg (tyD u), .agg (tyD t)] s.H fun d A => A = Heap.none ∧ d = .val (.bool (decide (u = t))) := callOK_eq fun H'' hle'' => kteq_N u t H'' hui
  obtain ⟨uk, um, ur, ue, ua⟩ := u
  obtain ⟨tk, tm, tr, te, ta⟩ := t
  simp only [tyD] at hgi f3 hcall
  refine tq (cj5 f0 f5 @i64.eq_1 htyl q6) ?_; intro Nx hNx Gx hGx
  by_cases he : (⟨uk, um, ur, ue, ua⟩ : TyS) = ⟨tk, tm, tr, te, ta⟩
  · rw [if_pos he] at hf
    rw [decide_eq_true he] at hcall
    refine W_drawE (fun _ _ d A => A = .none ∧ d = .val (.bool true)) (by kernel_rfl) (by kernel_rfl) (by kernel_rfl) fun Nx hNx => ?_; refine dst (cj9 f0 f3 f5 @i64.eq_1 htyl hgi hx h00 hil) ?_; intro Nx hNx Gx hGx
    refine ⟨hcall, ?_⟩
    (first | refine hGx _ ?_ | refine hNx _ ?_ | skip)
    refine dst @i64.eq_1 ?_; intro Nx hNx Gx hGx
    refine tq (cj2 f5 @i64.eq_1) ?_; intro Nx hNx Gx hGx
    refine rt hret hdf ?_
    exact ⟨_, Heap.le_refl _, hleS, _, frz_refl hleS, by rw [hf]; rfl⟩
  · rw [if_neg he] at hf
    rw [decide_eq_false he] at hcall
    refine W_drawE (fun _ _ d A => A = .none ∧ d = .val (.bool false)) (by kernel_rfl) (by kernel_rfl) (by kernel_rfl) fun Nx hNx => ?_; refine dst (cj9 f0 f3 f5 @i64.eq_1 htyl hgi hx h00 hil) ?_; intro Nx hNx Gx hGx
    refine ⟨hcall, ?_⟩
    (first | refine hGx _ ?_ | refine hNx _ ?_ | skip)
    refine dst @i64.eq_1 ?_; intro Nx hNx Gx hGx
    refine tq (cj3 f5 @i64.eq_1 w3) ?_; intro Nx hNx Gx hGx
    exact ⟨hil, hdf, f0, f3, rfl, hH, hf⟩
theorem W_to {cx : Cx} {x : Code} {N : St → Prop} {Q : Exit → St → Prop} {s : St} (M : St → Prop) (h1 : W cx x (thenQ M (fun _ _ => False)) s) (h2 : ∀ s, M s → N s) : W cx x (thenQ N Q) s :=
  W_mono h1 fun e s' q => by cases e <;> first | exact h2 s' q | exact q.elim
theorem getD_ints {d : List Int} {i : Nat} (h : i < d.length) : (d.map iD)[i]? = some [.val (.int .i64 (d.getD i 0))] := by
  rw [get_ints h, List.getD_eq_getElem?_getD, List.getElem?_eq_getElem h]; rfl
theorem Gl.os {H0 : Heap} {e : TypeId} {d : D} {H : Heap} {ob : Option Nat} {l : List Int} (h : Gl H0 e 1 (l.map iD) d H ob) (hl : 0 < l.length) : ∃ c o, d = .os c o 1 0 l.length ∧ H0 c = none ∧ H c = some (.row e o 1 (l.map iD)) := by
  rcases h with ⟨_, _, h⟩ | ⟨c, o, _, h1, h2, h3⟩
  · rw [List.map_eq_nil_iff] at h; rw [h] at hl; simp at hl
  · exact ⟨c, o, by rw [h1, List.length_map], h2, h3⟩
set_option maxHeartbeats 1000000 in
theorem kdeps_N (ts : List TyS) (n : Nat) (H : Heap) (hn : n ≤ ts.length) (htl : ts.length ≤ 1000000) (har : ∀ u ∈ ts, u.ar.length ≤ 140737488351232) (hw : wfT (ts.take n)) : Does Tryz.prog 48 [.seq 5 (ts.map tyD), i64 n] H fun d H' => d = .seq 1 ((depL (ts.take n)).map iD) ∧ H = H' := by
  refine Does.frz (K := fun d => d = .seq 1 ((depL (ts.take n)).map iD)) ?_
  have htyl : (List.map tyD ts).length = ts.length := List.length_map _
  refine does_of _ _ Tryz.func48 rfl rfl Tryz.ntmps48 Tryz.results48 (by simp only [List.length_cons, List.length_nil]; omega) fun w0 g0 Q hret => ?_
  refine tq @i64.eq_1 ?_; intro Nx hNx Gx hGx
  refine W_loopN n (fun i s => s.df = [] ∧ s.fr 0 = .seq 5 (ts.map tyD) ∧ s.fr 1 = i64 n ∧ s.fr 6 = i64 i ∧ H.le s.H ∧ ∃ ob, Gl H 3 1 ((depL (ts.take i)).map iD) (s.fr 5) s.H ob) ⟨rfl, rfl, rfl, rfl, Heap.le_refl _, none, Gl.nil _ _ _ _⟩ ?_
  rintro i s hi ⟨hdf, f0, f1, f6, hle, ob, hg⟩
  by_cases hil : i < n
  case neg =>
    have q1 : ((i : Int) < (n : Int)) = False := eq_false (by omega)
    have hin : i = n := by omega
    subst hin
    refine tq (cj4 f1 f6 @i64.eq_1 q1) ?_; intro Nx hNx Gx hGx
    refine rt hret hdf ?_
    exact ⟨_, Heap.le_refl _, hle, _, frz_gl hle hg, rfl⟩
  have q1 : ((i : Int) < (n : Int)) = True := eq_true (by omega)
  have hx : (i : Int).toNat = i := Int.toNat_natCast _
  have h00 : (0 : Int) ≤ (i : Int) := Int.natCast_nonneg _
  have hit : i < ts.length := by omega
  have w3 : IntKind.i64.wrap ((i : Int) + 1) = ((i + 1 : Nat) : Int) := by rw [wrap_i64_of (by omega)]; omega
  have hgi : (ts.map tyD)[i]? = some (tyD ts[i]) := by rw [List.getElem?_map, List.getElem?_eq_getElem hit]; rfl
  have hui := har ts[i] (List.getElem_mem hit)
  have hwi := hw i (by rw [List.length_take]; omega)
  rw [List.getElem_take] at hwi
  have hdt := depL_take hit
  have hdl : (depL (ts.take i)).length = i := by rw [depL_len, List.length_take]; omega
  have hbd := depL_bd (ts.take i)
  rw [List.length_take, Nat.min_eq_left (by omega)] at hbd
  have hk1 := kidM_le (b := i) (fun x hx => (hbd x hx).2) (by omega) ts[i]
  have hk2 := kidM_ge (fun x hx => by have := hbd x hx; omega) ts[i]
  obtain ⟨dd, hdd⟩ : ∃ dd, dd = depL (ts.take i) := ⟨_, rfl⟩
  rw [← hdd] at hdt hdl hk1 hk2 hg
  have hkm : kidM dd ts[i] = ts[i].ar.foldl (kidF dd) (if ts[i].k = 3 then dd.getD ts[i].e.toNat 0 else 0) := rfl
  obtain ⟨u, hu⟩ : ∃ u, u = ts[i] := ⟨_, rfl⟩
  rw [← hu] at hgi hui hwi hdt hk1 hk2 hkm
  obtain ⟨uk, um, ur, ue, ua⟩ := u
  simp only [tyD] at hgi hui hwi hkm
  obtain ⟨km, hkme⟩ : ∃ km, km = kidM dd ⟨uk, um, ur, ue, ua⟩ := ⟨_, rfl⟩
  rw [← hkme] at hdt hk1 hk2 hkm
  have hla : (List.map iD ua).length = ua.length := List.length_map _
  obtain ⟨d5, hd5⟩ : ∃ d5, d5 = s.fr 5 := ⟨_, rfl⟩
  rw [← hd5] at hg
  (have fs := And.intro f0 (And.intro f1 (And.intro f6 (And.intro @i64.eq_1 (And.intro q1 (And.intro hgi (And.intro hx (And.intro h00 (And.intro hit htyl)))))))); (iterate 12 (first | refine hGx _ ?_ | refine hNx _ ?_ | refine W_skip ?_ | refine W_exit ?_ | refine W_ret ?_ | refine W_label ?_ | refine W_scope ?_ | refine W_block ?_ | refine W_seq ?_ | ((first | refine tS fun Nx hNx => ?_ | refine WL_gE rfl rfl (by kernel_rfl) (by kernel_rfl) fun Gx hGx => ?_ | refine vcOpsS_sound (by kernel_rfl) ?_ | refine W_ifE fun A B hAx hBx => ?_); refine evT ?_; (first | refine hGx _ ?_ | refine hNx _ ?_ | refine hAx ?_ | refine hBx ?_ | skip)))); (try clear fs))
  refine W_to (fun s1 => s1.df = [] ∧ s1.fr 0 = .seq 5 (ts.map tyD) ∧ s1.fr 1 = i64 n ∧ s1.fr 6 = i64 i ∧ s1.H = s.H ∧ s1.fr 5 = d5 ∧ s1.fr 7 = i64 (if uk = 3 then dd.getD ue.toNat 0 else 0)) ?_ ?_
  · by_cases h3 : uk = 3
    · have q3 : (uk = 3) = True := eq_true h3
      have hue := hwi.1 h3
      obtain ⟨c, o, f5, hc0, hHc⟩ := Gl.os hg (by omega)
      rw [hd5] at f5
      have hgv := getD_ints (d := dd) (i := ue.toNat) (by omega)
      have h0u : 0 ≤ ue := hue.1
      have hul : (ue < (dd.length : Int)) = True := eq_true (by omega)
      rw [if_pos h3]
      refine tq (cj14 f0 f5 f6 @i64.eq_1 q3 hgi hx h00 hit htyl hHc hgv h0u hul) ?_; intro Nx hNx Gx hGx
      exact ⟨hdf, f0, f1, f6, rfl, by rw [hd5, ← f5]; rfl, rfl⟩
    · have q3 : (uk = 3) = False := eq_false h3
      rw [if_neg h3]
      refine tq (cj4 f0 f6 @i64.eq_1 q3) ?_; intro Nx hNx Gx hGx
      exact ⟨hdf, f0, f1, f6, rfl, hd5.symm, rfl⟩
  rintro s1 ⟨hdf1, g0, g1, g6, hH1, g5, g7⟩
  refine tq @i64.eq_1 ?_; intro Nx hNx Gx hGx
  refine W_loopN ua.length (fun (j : Nat) (s' : St) => s'.df = [] ∧ s'.fr 0 = .seq 5 (ts.map tyD) ∧ s'.fr 1 = i64 n ∧ s'.fr 6 = i64 i ∧ s'.H = s.H ∧ s'.fr 5 = d5 ∧ s'.fr 8 = i64 j ∧ s'.fr 7 = i64 ((ua.take j).foldl (kidF dd) (if uk = 3 then dd.getD ue.toNat 0 else 0))) ⟨hdf1, g0, g1, g6, hH1, g5, rfl, g7⟩ ?_
  rintro j s2 hj ⟨hdf2, k0, k1, k6, hH2, k5, k8, k7⟩
  have hjx : (j : Int).toNat = j := Int.toNat_natCast _
  have h0j : (0 : Int) ≤ (j : Int) := Int.natCast_nonneg _
  by_cases hjl : j < ua.length
  case neg =>
    have q2 : ((j : Int) < (ua.length : Int)) = False := eq_false (by omega)
    rw [List.take_of_length_le (by omega), ← hkm] at k7
    have w4 : IntKind.i64.wrap (km + 1) = km + 1 := wrap_i64_of (by omega)
    have hg2 : Gl H 3 1 (dd.map iD) (s2.fr 5) s2.H ob := by rw [k5, hH2]; exact hg
    have hle2 : H.le s2.H := by rw [hH2]; exact hle
    refine tq (cj13 k0 k6 k7 k8 @i64.eq_1 q2 w4 hgi hx h00 hit htyl hla) ?_; intro Nx hNx Gx hGx
    refine apV_grow (e := 3) ty48 rfl ty48 rfl ty3 rfl (by decide) hle2 hg2 (new := [iD (km + 1)]) (by exact ⟨rfl, rfl⟩) (by rw [List.length_map]; show (_ + 1) * 8 ≤ _; omega) fun d H6 ob6 hg6 hle6 _ => ?_
    rw [show [iD (km + 1)] = [km + 1].map iD from rfl, ← List.map_append, ← hdt] at hg6
    refine tq (cj3 k6 @i64.eq_1 w3) ?_; intro Nx hNx Gx hGx
    exact ⟨hil, hdf2, k0, k1, rfl, hle6, ob6, hg6⟩
  have q2 : ((j : Int) < (ua.length : Int)) = True := eq_true (by omega)
  have hgj := get_ints hjl
  have hfi := hwi.2 ua[j] (List.getElem_mem hjl)
  have hstep : (ua.take (j + 1)).foldl (kidF dd) (if uk = 3 then dd.getD ue.toNat 0 else 0) = max ((ua.take j).foldl (kidF dd) (if uk = 3 then dd.getD ue.toNat 0 else 0)) (dd.getD ua[j].toNat 0) := by
    rw [List.take_succ_eq_append_getElem hjl, List.foldl_append]; rfl
  obtain ⟨f, hfe⟩ : ∃ f, f = ua[j] := ⟨_, rfl⟩
  rw [← hfe] at hgj hfi hstep
  obtain ⟨c, o, f5, hc0, hHc⟩ := Gl.os hg (by omega)
  have k5' := k5.trans f5
  rw [← hH2] at hHc
  have hgv := getD_ints (d := dd) (i := f.toNat) (by omega)
  have h0u : 0 ≤ f := hfi.1
  have hul : (f < (dd.length : Int)) = True := eq_true (by omega)
  have w4 : IntKind.i64.wrap ((j : Int) + 1) = ((j + 1 : Nat) : Int) := by rw [wrap_i64_of (by omega)]; omega
  refine tq (cj22 k0 k5' k6 k7 k8 @i64.eq_1 q2 w4 hgi hx h00 hit htyl hla hgj hjx h0j hjl hHc hgv h0u hul) ?_; intro Nx hNx Gx hGx
  exact ⟨hjl, hdf2, k0, k1, k6, hH2, k5, rfl, by rw [hstep]; rfl⟩
theorem kdep_N (ts : List TyS) (i : Int) (H : Heap) (htl : ts.length ≤ 1000000) (har : ∀ u ∈ ts, u.ar.length ≤ 140737488351232) (hw : wfT ts) : Does Tryz.prog 24 [.seq 5 (ts.map tyD), i64 i] H fun d H' => d = i64 (depAt ts i) ∧ H = H' := by
  refine Does.frz (K := fun d => d = i64 (depAt ts i)) ?_
  have htyl : (List.map tyD ts).length = ts.length := List.length_map _
  have hle := Heap.le_refl H
  refine does_of _ _ Tryz.func24 rfl rfl Tryz.ntmps24 Tryz.results24 (by simp only [List.length_cons, List.length_nil]; omega) fun w0 g0 Q hret => ?_
  by_cases h1 : i < 0
  · have q1 : (i < 0) = True := eq_true h1
    refine tq (cj2 @i64.eq_1 q1) ?_; intro Nx hNx Gx hGx
    refine rt hret @i64.eq_1 ?_
    exact ⟨_, Heap.le_refl _, hle, _, frz_refl hle, by unfold depAt; rw [if_neg (fun h => by have := h.1; omega)]⟩
  have q1 : (i < 0) = False := eq_false h1
  by_cases h2 : (ts.length : Int) ≤ i
  · have q2 : ((ts.length : Int) ≤ i) = True := eq_true h2
    refine tq (cj4 @i64.eq_1 q1 q2 htyl) ?_; intro Nx hNx Gx hGx
    refine rt hret @i64.eq_1 ?_
    exact ⟨_, Heap.le_refl _, hle, _, frz_refl hle, by unfold depAt; rw [if_neg (fun h => by have := h.2; omega)]⟩
  have q2 : ((ts.length : Int) ≤ i) = False := eq_false h2
  have hR : InR ts.length i := ⟨by omega, by omega⟩
  obtain ⟨n, rfl⟩ : ∃ n : Nat, i = n := ⟨i.toNat, by omega⟩
  have w3 : IntKind.i64.wrap ((n : Int) + 1) = ((n + 1 : Nat) : Int) := by rw [wrap_i64_of (by omega)]; omega
  have hln : (depL (ts.take (n + 1))).length = n + 1 := by rw [depL_len, List.length_take]; omega
  have hgv := getD_ints (d := depL (ts.take (n + 1))) (i := n) (by omega)
  have hgd : (depL (ts.take (n + 1))).getD n 0 = depAt ts n := by
    unfold depAt
    rw [if_pos hR, List.getD_eq_getElem?_getD, List.getD_eq_getElem?_getD, Int.toNat_natCast, depL_get (by omega) (by omega)]
  rw [hgd] at hgv
  have hx : (n : Int).toNat = n := Int.toNat_natCast _
  have h00 : (0 : Int) ≤ (n : Int) := Int.natCast_nonneg _
  have hml : (List.map iD (depL (ts.take (n + 1)))).length = n + 1 := by rw [List.length_map, hln]
  have hnl : n < n + 1 := by omega
  have hnl' : ((n : Int) < ((n + 1 : Nat) : Int)) = True := eq_true (by omega)
  refine tq (cj5 @i64.eq_1 q1 q2 htyl w3) ?_; intro Nx hNx Gx hGx
  refine (kdeps_N ts (n + 1) _ (by omega) htl har (wfT_take hw _)).mono ?_
  rintro d _ ⟨rfl, rfl⟩
  refine tq (cj7 @i64.eq_1 hgv hx h00 hml hnl hnl') ?_; intro Nx hNx Gx hGx
  refine rt hret @i64.eq_1 ?_
  exact ⟨_, Heap.le_refl _, hle, _, frz_refl hle, rfl⟩
end Go.Proofs.YtgfhgeelfaalmaaGreatDoor
