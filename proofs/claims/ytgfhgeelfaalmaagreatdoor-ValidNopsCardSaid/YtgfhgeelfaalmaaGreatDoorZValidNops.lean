/- The walk of the law ValidNops. -/
import Derived.Test.YtgfhgeelfaalmaaGreatDoorK42
import Derived.Test.YtgfhgeelfaalmaaGreatDoorK36
import Derived.Test.YtgfhgeelfaalmaaGreatDoorK43
import Derived.Test.YtgfhgeelfaalmaaGreatDoorK35
namespace Go.Proofs.YtgfhgeelfaalmaaGreatDoor
open Go.RowKit
set_option maxRecDepth 100000
set_option linter.unusedVariables false
set_option linter.unusedSimpArgs false
set_option maxHeartbeats 2000000 in
theorem kcheck10_N (b : BdS) (H : Heap) (sb : Sb b) (hck : decE b = 0 → Ck b) : Does Tryz.prog 12 [.agg (bdD b)] H fun d H' => d = i64 (chkE b) ∧ H = H' := by
  refine Does.frz (K := fun d => d = i64 (chkE b)) ?_
  have hle := Heap.le_refl H
  obtain ⟨o1, o2, ⟨o3, o4⟩, o5, o6, o7⟩ := sb.ok
  have hts := sb.ts
  have hde := kdecl_N b H sb
  have hmb : (List.map bkD b.bl).length = b.bl.length := List.length_map _
  unfold big at o6
  obtain ⟨y, hy⟩ : ∃ y, y = chkE b := ⟨_, rfl⟩
  rw [← hy]
  unfold chkE at hy
  obtain ⟨D0, hD⟩ : ∃ D0, D0 = decE b := ⟨_, rfl⟩
  rw [← hD] at hde hck hy
  clear hD
  rw [bdD_eq] at hde ⊢
  refine does_of _ _ Tryz.func12 rfl rfl Tryz.ntmps12 Tryz.results12 (by simp only [List.length_cons, List.length_nil]; omega) fun w0 g0 Q hret => ?_
  refine tq @i64.eq_1 ?_; intro Nx hNx Gx hGx
  intro c1 hc1
  refine hNx _ ?_
  refine frz 1 hc1 ?_
  refine tq @i64.eq_1 ?_; intro Nx hNx Gx hGx
  refine hde.mono ?_
  rintro d _ ⟨rfl, rfl⟩
  by_cases h0 : D0 = 0
  case neg =>
    have q0 : (D0 = 0) = False := eq_false h0
    have e : y = D0 := hy.trans (if_pos h0)
    refine tq (cj2 @i64.eq_1 q0) ?_; intro Nx hNx Gx hGx
    refine rt hret @i64.eq_1 ?_
    exact ⟨_, Heap.le_refl _, hle, _, frz_refl hle, by rw [e]⟩
  have q0 : (D0 = 0) = True := eq_true h0
  rw [if_neg (fun h => h h0)] at hy
  have ck := hck h0
  refine tq (cj2 @i64.eq_1 q0) ?_; intro Nx hNx Gx hGx
  refine W_loopN b.bl.length (fun i s => s.df = [] ∧ s.fr 1 = .rp [strD b.nm, .seq 1 (b.rg.map sD), .seq 2 (b.ol.map pD), .seq 5 (b.ty.map tyD), .seq 2 (b.lc.map lcD), i64 b.ag, .seq 7 (b.bl.map bkD)] ∧ s.fr 4 = i64 i ∧ s.H = H ∧ bksE b b.bl = bksE b (b.bl.drop i)) ⟨rfl, rfl, rfl, rfl, rfl⟩ ?_
  rintro i s hi ⟨hdf, f1, f4, hH, ha⟩
  have hx : (i : Int).toNat = i := Int.toNat_natCast _
  have h00 : (0 : Int) ≤ (i : Int) := Int.natCast_nonneg _
  have hleS : H.le s.H := by rw [hH]; exact hle
  by_cases hil : i < b.bl.length
  case neg =>
    have q6 : ((i : Int) < (b.bl.length : Int)) = False := eq_false (by omega)
    rw [List.drop_eq_nil_of_le (by omega)] at ha
    have e : y = 0 := by rw [hy, ha]; rfl
    exact oz hret (cj5 @i64.eq_1 f1 f4 hmb q6) hleS e
  have hil' : (i : Int) < (b.bl.length : Int) := by omega
  have q6 : ((i : Int) < (b.bl.length : Int)) = True := eq_true hil'
  have w3 : IntKind.i64.wrap ((i : Int) + 1) = ((i + 1 : Nat) : Int) := by rw [wrap_i64_of (by omega)]; omega
  have hgi := bk_get hil
  have hok := o7 b.bl[i] (List.getElem_mem hil)
  have hnm := hts b.bl[i] (List.getElem_mem hil)
  rw [List.drop_eq_getElem_cons hil, bksE] at ha
  obtain ⟨x, hxx⟩ : ∃ x, x = b.bl[i] := ⟨_, rfl⟩
  rw [← hxx] at hgi hok hnm ha
  clear hxx
  obtain ⟨xs, xt⟩ := x
  obtain ⟨⟨hsl, hso⟩, hto⟩ := hok
  simp only at hsl hso hto ha hnm
  have htm := kterm_N b xt H ck hto hnm
  have hst : ∀ s ∈ xs, ∀ H1, CallOK Tryz.prog 18 [.agg (bdD b), .agg (stD s)] H1 fun d A => A = Heap.none ∧ d = i64 (stE b s) := fun s hs H1 => callOK_eq fun H'' hle'' => kstmt_N b s H'' ck (hso s hs)
  rw [bdD_eq] at htm hst
  have hms : (List.map stD xs).length = xs.length := List.length_map _
  unfold big at hsl
  simp only [bkD] at hgi
  simp only [tmD] at htm
  refine tq (cj10 f1 f4 @i64.eq_1 hmb q6 hgi hx h00 hil hil') ?_; intro Nx hNx Gx hGx
  intro c5 hc5
  refine hNx _ ?_
  refine frz 5 hc5 ?_
  by_cases h1 : 65535 < xs.length
  · have q1 : ((65535 : Int) < (xs.length : Int)) = True := eq_true (by omega)
    have e : y = 15 := by rw [hy, ha, if_pos h1]
    exact oz hret (cj3 @i64.eq_1 hms q1) hleS e
  have q1 : ((65535 : Int) < (xs.length : Int)) = False := eq_false (by omega)
  rw [if_neg h1] at ha
  refine tq (cj3 @i64.eq_1 hms q1) ?_; intro Nx hNx Gx hGx
  refine W_loopN xs.length (fun j s2 => s2.df = [] ∧ s2.fr 1 = .rp [strD b.nm, .seq 1 (b.rg.map sD), .seq 2 (b.ol.map pD), .seq 5 (b.ty.map tyD), .seq 2 (b.lc.map lcD), i64 b.ag, .seq 7 (b.bl.map bkD)] ∧ s2.fr 4 = i64 i ∧ s2.fr 5 = .rp [.seq 11 (xs.map stD), i64 xt.k, .seq 1 (xt.tg.map iD), .seq 4 (xt.ar.map opD), i64 xt.pl.lo, .seq 2 (xt.pl.pr.map pD), strD xt.nm] ∧ s2.fr 6 = i64 j ∧ s2.H = H ∧ stsE b xs = stsE b (xs.drop j)) ⟨hdf, f1, f4, rfl, rfl, hH, rfl⟩ ?_
  clear hdf f1 f4 hH hleS
  rintro j s2 hj ⟨hdf, f1, f4, f5, f6, hH, hb⟩
  have hy0 : (j : Int).toNat = j := Int.toNat_natCast _
  have g00 : (0 : Int) ≤ (j : Int) := Int.natCast_nonneg _
  have hleS : H.le s2.H := by rw [hH]; exact hle
  by_cases hjl : j < xs.length
  case pos =>
    have hjl' : (j : Int) < (xs.length : Int) := by omega
    have p6 : ((j : Int) < (xs.length : Int)) = True := eq_true hjl'
    have w4 : IntKind.i64.wrap ((j : Int) + 1) = ((j + 1 : Nat) : Int) := by rw [wrap_i64_of (by omega)]; omega
    have hgj := st_get hjl
    have hst := hst xs[j] (List.getElem_mem hjl) s2.H
    rw [List.drop_eq_getElem_cons hjl, stsE] at hb
    obtain ⟨v, hv⟩ : ∃ v, v = xs[j] := ⟨_, rfl⟩
    rw [← hv] at hgj hst hb
    clear hv
    obtain ⟨E, hE⟩ : ∃ E, E = stE b v := ⟨_, rfl⟩
    rw [← hE] at hst hb
    clear hE
    simp only [stD] at hgj hst
    refine tq (cj5 f5 f6 @i64.eq_1 hms p6) ?_; intro Nx hNx Gx hGx
    (try refine W_seq ?_)
    refine W_drawE (fun _ _ d A => A = .none ∧ d = i64 E) (by kernel_rfl) (by kernel_rfl) (by kernel_rfl) fun Nx hNx => ?_; refine dst (cj10 f1 f5 f6 @i64.eq_1 hms hgj hy0 g00 hjl hjl') ?_; intro Nx hNx Gx hGx
    refine ⟨hst, ?_⟩
    (first | refine hGx _ ?_ | refine hNx _ ?_ | skip)
    by_cases h2 : E = 0
    · have q2 : (E = 0) = True := eq_true h2
      rw [if_neg (fun h => h h2)] at hb
      refine tq (cj4 f6 @i64.eq_1 q2 w4) ?_; intro Nx hNx Gx hGx
      exact ⟨hjl, hdf, f1, f4, f5, rfl, hH, hb⟩
    · have q2 : (E = 0) = False := eq_false h2
      rw [if_pos h2] at hb
      have e : y = E := by rw [hy, ha, hb, if_pos h2]
      exact oz hret (cj2 @i64.eq_1 q2) hleS e
  have p6 : ((j : Int) < (xs.length : Int)) = False := eq_false (by omega)
  rw [List.drop_eq_nil_of_le (by omega), stsE] at hb
  rw [hb, if_neg (fun h => h rfl)] at ha
  clear hb
  obtain ⟨E, hE⟩ : ∃ E, E = tmE b xt := ⟨_, rfl⟩
  rw [← hE] at htm ha
  clear hE
  rw [← hH] at htm
  refine tq (cj6 f1 f5 f6 @i64.eq_1 hms p6) ?_; intro Nx hNx Gx hGx
  refine htm.mono ?_
  rintro d _ ⟨rfl, hH2⟩
  by_cases h2 : E = 0
  · have q2 : (E = 0) = True := eq_true h2
    rw [if_neg (fun h => h h2)] at ha
    refine tq (cj4 f4 @i64.eq_1 q2 w3) ?_; intro Nx hNx Gx hGx
    exact ⟨hil, hdf, f1, rfl, by rw [← hH2]; exact hH, ha⟩
  · have q2 : (E = 0) = False := eq_false h2
    rw [if_pos h2] at ha
    have e : y = E := by rw [hy, ha]
    rw [hH2] at hleS
    exact oz hret (cj2 @i64.eq_1 q2) hleS e
def nopN : List D := [i64 2, i64 0, .val (.slice none 0 0), i64 0, i64 0, i64 0, .val (.bool false), i64 0, .val (.slice none 0 0), .val (.slice none 0 0), i64 0]
theorem nopN_imp : ImpL nopN (stD nopS) := ⟨imp_refl _, imp_refl _, imp_nil, imp_refl _, imp_refl _, imp_refl _, imp_refl _, imp_refl _, imp_nil, imp_nil, imp_refl _, trivial⟩
theorem impR_refl : ∀ l : List (List D), ImpR l l
  | [] => trivial
  | _ :: l => ⟨impl_refl _, impR_refl l⟩
theorem impR_app : ∀ {a a' c c' : List (List D)}, ImpR a a' → ImpR c c' → ImpR (a ++ c) (a' ++ c')
  | [], [], _, _, _, h => h
  | _ :: _, _ :: _, _, _, h, h2 => ⟨h.1, impR_app h.2 h2⟩
  | [], _ :: _, _, _, h, _ => h.elim
  | _ :: _, [], _, _, h, _ => h.elim
def bkN (x : BkS) : List D := [.seq 11 (nopN :: x.st.map stD), i64 x.tm.k, .seq 1 (x.tm.tg.map iD), .seq 4 (x.tm.ar.map opD), i64 x.tm.pl.lo, .seq 2 (x.tm.pl.pr.map pD), strD x.tm.nm]
theorem bkN_imp (x : BkS) : ImpL (bkN x) (bkD (nopB x)) := ⟨imp_seq ⟨nopN_imp, impR_refl _⟩, imp_refl _, imp_refl _, imp_refl _, imp_refl _, imp_refl _, imp_refl _, trivial⟩
theorem bkNs_imp : ∀ l : List BkS, ImpR (l.map bkN) ((l.map nopB).map bkD)
  | [] => trivial
  | x :: l => ⟨bkN_imp x, bkNs_imp l⟩
def unrN : List D := [.val (.slice none 0 0), i64 5, .val (.slice none 0 0), .val (.slice none 0 0), i64 0, .val (.slice none 0 0), strD ByteArray.empty]
theorem unrN_imp : ImpL unrN (bkD unrB) := ⟨imp_nil, imp_refl _, imp_nil, imp_nil, imp_refl _, imp_nil, imp_refl _, trivial⟩
theorem Frz.imp {H H' : Heap} {d d0 d1 : D} (h : Frz H H' d d0) (h2 : Imp d0 d1) : Frz H H' d d1 := fun w v hH hv => h2 _ _ _ (h w v hH hv)
theorem ok_nopS : okSt nopS := by
  refine ⟨by unfold okPl big; decide, by unfold okPl big; decide, by unfold big; decide, fun o ho => by simp [nopS] at ho⟩
theorem ok_nop {b : BdS} (ok : okBd b) (sm : Sm b) : okBd (nopD b) := by
  obtain ⟨o1, o2, o3, o5, o6, o7⟩ := ok
  refine ⟨o1, o2, o3, o5, by show big (b.bl.map nopB).length; rw [List.length_map]; exact o6, fun x hx => ?_⟩
  obtain ⟨y, hy, rfl⟩ := List.mem_map.1 (show x ∈ b.bl.map nopB from hx)
  have hs := st_small sm y hy
  obtain ⟨⟨h1, h2⟩, h3⟩ := o7 y hy
  refine ⟨⟨by show big (y.st.length + 1); unfold big; omega, fun s hs => ?_⟩, h3⟩
  rcases List.mem_cons.1 (show s ∈ nopS :: y.st from hs) with rfl | h
  · exact ok_nopS
  · exact h2 s h
theorem ok_unr {b : BdS} {l : List BkS} (ok : okBd (wbl b l)) (hl : l.length ≤ 200) : okBd (wbl b (l ++ [unrB])) := by
  obtain ⟨o1, o2, o3, o5, o6, o7⟩ := ok
  refine ⟨o1, o2, o3, o5, by show big (l ++ [unrB]).length; rw [List.length_append]; show big (l.length + 1); unfold big; omega, fun x hx => ?_⟩
  rcases List.mem_append.1 (show x ∈ l ++ [unrB] from hx) with h | h
  · exact o7 x h
  · have : x = unrB := by simpa using h
    subst this
    exact ⟨⟨by unfold big; exact Nat.zero_le _, fun s hs => by simp [unrB] at hs⟩, by unfold big; exact Nat.zero_le _, ⟨by unfold big; exact Nat.zero_le _, fun o ho => by simp [unrB] at ho⟩, by unfold okPl big; exact Nat.zero_le _⟩
theorem sb_wbl {b : BdS} {l : List BkS} (sb : Sb b) (ok : okBd (wbl b l)) (h : ∀ x ∈ l, big x.tm.nm.size) : Sb (wbl b l) := ⟨ok, sb.nm, sb.rs, sb.ls, h⟩
theorem ck_wbl {b : BdS} {l : List BkS} (ck : Ck b) (hl : big l.length) : Ck (wbl b l) := ⟨ck.wt, ck.rf, ck.wl, ck.ar, ck.tl, ck.ol, ck.oll, ck.rgl, ck.lcl, hl⟩
theorem Gl.up {H0 H H' : Heap} {e : TypeId} {sz : Nat} {els : List (List D)} {d : D} {ob : Option Nat} (h : Gl H0 e sz els d H ob) (hle : H.le H') : Gl H0 e sz els d H' ob := by
  rcases h with h | ⟨c, o, h1, h2, h3, h4⟩
  · exact .inl h
  · exact .inr ⟨c, o, h1, h2, h3, hle _ _ h4⟩
theorem frz_bdy {b : BdS} {l : List BkS} {H : Heap} {d6 : D} {els : List (List D)} {ob : Option Nat} (hg : Gl Heap.none 52 7 els d6 H ob) (hi : ImpR els (l.map bkD)) : Vw H (.agg [strD b.nm, .seq 1 (b.rg.map sD), .seq 2 (b.ol.map pD), .seq 5 (b.ty.map tyD), .seq 2 (b.lc.map lcD), i64 b.ag, d6]) (.agg (bdD (wbl b l))) := by
  have h : Frz Heap.none H (.agg [strD b.nm, .seq 1 (b.rg.map sD), .seq 2 (b.ol.map pD), .seq 5 (b.ty.map tyD), .seq 2 (b.lc.map lcD), i64 b.ag, d6]) (.agg [strD b.nm, .seq 1 (b.rg.map sD), .seq 2 (b.ol.map pD), .seq 5 (b.ty.map tyD), .seq 2 (b.lc.map lcD), i64 b.ag, .seq 7 (l.map bkD)]) := frz_agg ⟨frz_refl (Heap.le_none _), frz_refl (Heap.le_none _), frz_refl (Heap.le_none _), frz_refl (Heap.le_none _), frz_refl (Heap.le_none _), frz_refl (Heap.le_none _), (frz_gl (Heap.le_none _) hg).imp (imp_seq hi), trivial⟩
  exact h
theorem bdy_ok {b : BdS} {l : List BkS} {f : FuncId} {n : Int} (h : Does Tryz.prog f [.agg (bdD (wbl b l))] .none fun d H' => d = i64 n ∧ Heap.none = H') {H : Heap} {d6 : D} {els : List (List D)} {ob : Option Nat} (hg : Gl Heap.none 52 7 els d6 H ob) (hi : ImpR els (l.map bkD)) : CallOK Tryz.prog f [.agg [strD b.nm, .seq 1 (b.rg.map sD), .seq 2 (b.ol.map pD), .seq 5 (b.ty.map tyD), .seq 2 (b.lc.map lcD), i64 b.ag, d6]] H fun d A => A = Heap.none ∧ d = i64 n :=
  callOK_eq fun H'' hle'' => pure_D (h.mono fun _ _ h => h.1) rfl (vws1 (frz_bdy (hg.up hle'') hi))
structure NopI (b : BdS) (c3 : Nat) (i : Nat) (s : St) : Prop where
  f3 : s.fr 3 = .ep c3 0 7 0 0
  gl : ∃ d6 ob, s.H c3 = some (.row 28 0 7 [[strD b.nm, .seq 1 (b.rg.map sD), .seq 2 (b.ol.map pD), .seq 5 (b.ty.map tyD), .seq 2 (b.lc.map lcD), i64 b.ag, d6]]) ∧ ob ≠ some c3 ∧ Gl Heap.none 52 7 ((b.bl.take i).map bkN) d6 s.H ob
set_option maxHeartbeats 2000000 in
theorem lnops_N (b : BdS) (ok : okBd b) : Does Tryz.prog 8 [.agg (bdD b)] .none fun d _ => d = .val (.bool true) := by
  have hsk := skip10_N b .none ok
  have hde := fun sm => kdecl_N b .none (sb_of ok sm)
  have hmb : (List.map bkD b.bl).length = b.bl.length := List.length_map _
  rw [bdD_eq] at hsk hde ⊢
  refine does_of _ _ Tryz.func8 rfl rfl Tryz.ntmps8 Tryz.results8 (by simp only [List.length_cons, List.length_nil]; omega) fun w0 g0 Q hret => ?_
  refine tq @i64.eq_1 ?_; intro Nx hNx Gx hGx
  intro c1 hc1
  refine hNx _ ?_
  refine frz 1 hc1 ?_
  refine tq @i64.eq_1 ?_; intro Nx hNx Gx hGx
  refine hsk.mono ?_
  rintro d _ ⟨hd, rfl⟩
  rcases hd with rfl | ⟨rfl, sm⟩
  · refine tq @i64.eq_1 ?_; intro Nx hNx Gx hGx
    refine (alive10_at _).mono ?_; rintro d _ ⟨rfl, rfl⟩; refine tq @i64.eq_1 ?_; intro Nx hNx Gx hGx; refine rt hret @i64.eq_1 ?_; exact ⟨_, Heap.le_refl _⟩
  refine tq @i64.eq_1 ?_; intro Nx hNx Gx hGx
  refine (hde sm).mono ?_
  rintro d _ ⟨rfl, rfl⟩
  by_cases h2 : decE b = 0
  case neg =>
    have q2 : (decE b = 0) = False := eq_false h2
    refine tq (cj2 @i64.eq_1 q2) ?_; intro Nx hNx Gx hGx
    refine (alive10_at _).mono ?_; rintro d _ ⟨rfl, rfl⟩; refine tq @i64.eq_1 ?_; intro Nx hNx Gx hGx; refine rt hret @i64.eq_1 ?_; exact ⟨_, Heap.le_refl _⟩
  have q2 : (decE b = 0) = True := eq_true h2
  refine tq (cj2 @i64.eq_1 q2) ?_; intro Nx hNx Gx hGx
  intro c3 hc3
  refine hNx _ ?_
  refine tq (cj2 @i64.eq_1 hmb) ?_; intro Nx hNx Gx hGx
  refine W_loopN b.bl.length (fun i s => s.df = [] ∧ s.fr 1 = .rp [strD b.nm, .seq 1 (b.rg.map sD), .seq 2 (b.ol.map pD), .seq 5 (b.ty.map tyD), .seq 2 (b.lc.map lcD), i64 b.ag, .seq 7 (b.bl.map bkD)] ∧ s.fr 18 = .seq 7 (b.bl.map bkD) ∧ s.fr 19 = i64 b.bl.length ∧ s.fr 20 = i64 i ∧ NopI b c3 i s) ⟨rfl, rfl, rfl, rfl, rfl, ⟨rfl, _, none, Heap.upd_same _ _ _, by simp, Gl.nil _ _ _ _⟩⟩ ?_
  rintro i s hi ⟨hdf, f1, f18, f19, f20, ⟨f3, d6, ob, hc, hob, hg⟩⟩
  have hx : (i : Int).toNat = i := Int.toNat_natCast _
  have h00 : (0 : Int) ≤ (i : Int) := Int.natCast_nonneg _
  by_cases hil : i < b.bl.length
  case neg =>
    have q6 : ((i : Int) < (b.bl.length : Int)) = False := eq_false (by omega)
    rw [List.take_of_length_le (by omega)] at hg
    have okn := ok_nop ok sm
    have hst : ∀ x ∈ b.bl, x.st.length ≤ 60000 := fun x hx => by have := (smB_of sm.tt).2.2.2.2.1 x hx; omega
    have hln : (nopD b).bl.length = b.bl.length := List.length_map _
    have sbn : Sb (nopD b) := sb_wbl (sb_of ok sm) okn fun x hx => by
      obtain ⟨y, hy, rfl⟩ := List.mem_map.1 hx
      exact (sb_of ok sm).ts y hy
    have ckn : Ck (nopD b) := ck_wbl (ck_of ok sm h2) okn.2.2.2.2.1
    have hE := chk_nop b hst
    have hB : ∀ H1, CallOK Tryz.prog 11 [.agg (bdD b)] H1 fun d A => A = Heap.none ∧ d = i64 (chkE b) := fun H1 => callOK_eq fun H'' _ => check10_N b H'' (sb_of ok sm) fun _ => ck_of ok sm h2
    have hK : ∀ H1, Does Tryz.prog 12 [.agg (bdD b)] H1 fun d H' => d = i64 (chkE b) ∧ H1 = H' := fun H1 => kcheck10_N b H1 (sb_of ok sm) fun _ => ck_of ok sm h2
    have hC := bdy_ok (hE ▸ check10_N (nopD b) .none sbn fun _ => ckn) hg (bkNs_imp _)
    have hck : chkE b = 0 → chkE (wbl b ((nopD b).bl ++ [unrB])) = 0 := fun h => chk_app (nopD b) unrB rfl (Nat.zero_le _) (tm_unr _) (by have := sm.bl; omega) (hE.trans h)
    have oku := ok_unr (l := (nopD b).bl) okn (by have := sm.bl; omega)
    have hU := check10_N (wbl b ((nopD b).bl ++ [unrB])) .none (sb_wbl (sb_of ok sm) oku fun x hx => by
      rcases List.mem_append.1 hx with hx | hx
      · exact sbn.ts x hx
      · rw [List.mem_singleton.1 hx]; unfold big; exact Nat.zero_le _) fun _ => ck_wbl (ck_of ok sm h2) oku.2.2.2.2.1
    have hnn := nodes_nop b
    have hN := knodes_N _ .none (smB_nop sm.tt hnn)
    have hNb := fun H1 => (callOK_eq fun H'' _ => knodes_N b H'' (smB_b sm.tt) : CallOK Tryz.prog 21 [.agg (bdD b)] H1 fun d A => A = Heap.none ∧ d = i64 (nodesT b))
    rw [hnn] at hN
    have hnb := (smB_of sm.tt).2.2.2.2.2
    have hbl := sm.bl
    have w1 : IntKind.i64.wrap (4 * (b.bl.length : Int)) = 4 * (b.bl.length : Int) := wrap_i64_of (by omega)
    have w2 : IntKind.i64.wrap ((nodesT b : Int) + 4 * (b.bl.length : Int)) = (nodesT b : Int) + 4 * (b.bl.length : Int) := wrap_i64_of (by omega)
    have w4 : IntKind.i64.wrap ((nodesT b : Int) + 4 * (b.bl.length : Int) + 3) = ((nodesT b + 4 * b.bl.length + 3 : Nat) : Int) := by rw [wrap_i64_of (by omega)]; omega
    obtain ⟨M, hM⟩ : ∃ M, M = nodesT b := ⟨_, rfl⟩
    rw [← hM] at hNb hN w2 w4
    obtain ⟨C, hCC⟩ : ∃ C, C = chkE b := ⟨_, rfl⟩
    rw [← hCC] at hB hK hC hck
    rw [bdD_eq] at hB hK hNb
    have qe : (C = C) = True := eq_true rfl
    refine tq (cj4 f19 f20 @i64.eq_1 q6) ?_; intro Nx hNx Gx hGx
    refine W_drawE (fun t _ d A => A = .none ∧ d = i64 C) (by kernel_rfl) (by kernel_rfl) (by kernel_rfl) fun Nx hNx => ?_; refine dst (cj4 f1 f3 @i64.eq_1 hc) ?_; intro Nx hNx Gx hGx
    refine ⟨hC, ?_⟩
    (first | refine hGx _ ?_ | skip)
    (first | refine dst (cj5 f1 f3 @i64.eq_1 hc qe) ?_; intro Nx hNx Gx hGx | skip)
    refine ⟨hB _, ?_⟩
    (first | refine hGx _ ?_ | skip)
    (first | refine dst (cj5 f1 f3 @i64.eq_1 hc qe) ?_; intro Nx hNx Gx hGx | skip)
    refine tq (cj3 f1 @i64.eq_1 qe) ?_; intro Nx hNx Gx hGx
    refine (hK _).mono ?_
    rintro d _ ⟨rfl, rfl⟩
    by_cases h4 : C = 0
    case neg =>
      have q4 : (C = 0) = False := eq_false h4
      refine tq (cj2 @i64.eq_1 q4) ?_; intro Nx hNx Gx hGx
      refine (alive10_at _).mono ?_
      rintro d _ ⟨rfl, rfl⟩
      refine tq @i64.eq_1 ?_; intro Nx hNx Gx hGx
      refine rt hret hdf ?_
      exact ⟨_, Heap.le_refl _⟩
    have q4 : (C = 0) = True := eq_true h4
    rw [hck h4] at hU
    refine tq (cj4 f3 @i64.eq_1 hc q4) ?_; intro Nx hNx Gx hGx
    refine apV_grow (e := 52) ty26 rfl ty26 rfl ty52 rfl (by decide) (Heap.le_none _) hg (new := [unrN]) (by exact ⟨rfl, rfl⟩) (by rw [List.length_map]; show (_ + 1) * _ ≤ _; omega) fun d3 H3 ob3 hg3 hle3 hk3 => ?_
    have hc3' := hk3 c3 _ hc hob
    have hc30 := hc3'.1
    have hgk := hg3
    rcases hg3 with ⟨_, _, h⟩ | ⟨cc, oo, _, rfl, _, _⟩
    · simp at h
    have him : ImpR (List.map bkN b.bl ++ [unrN]) (((nopD b).bl ++ [unrB]).map bkD) := by rw [List.map_append]; exact impR_app (bkNs_imp _) ⟨unrN_imp, trivial⟩
    have hgF := fun v => hgk.keep (H' := H3.upd c3 v) fun c e => Heap.upd_ne fun e2 => hc3'.2 (by rw [e, e2])
    have hUF := fun v => bdy_ok hU (hgF v) him
    have hNF := fun v => bdy_ok hN (hgF v) him
    (have fs := And.intro @i64.eq_1 hc30; refine evT ?_; try clear fs); (first | refine hGx _ ?_ | refine hNx _ ?_ | skip)
    refine tq @i64.eq_1 ?_; intro Nx hNx Gx hGx
    refine W_drawE (fun t _ d A => A = .none ∧ d = (if t = some 53 then .val (.bool true) else if t = some 56 then i64 0 else if t = some 61 then i64 (M + 4 * b.bl.length + 3 : Nat) else i64 M)) (by kernel_rfl) (by kernel_rfl) (by kernel_rfl) fun Nx hNx => ?_; refine dst (cj7 f1 f3 @i64.eq_1 hmb w1 w2 w4) ?_; intro Nx hNx Gx hGx
    refine ⟨callOK_eq fun H1 _ => alive10_at H1, ?_⟩
    (first | refine hGx _ ?_ | refine hNx _ ?_ | skip)
    (first | refine dst (cj7 f1 f3 @i64.eq_1 hmb w1 w2 w4) ?_; intro Nx hNx Gx hGx | skip)
    refine ⟨hUF _, ?_⟩
    (first | refine hGx _ ?_ | skip)
    (first | refine dst (cj7 f1 f3 @i64.eq_1 hmb w1 w2 w4) ?_; intro Nx hNx Gx hGx | skip)
    refine ⟨hNF _, ?_⟩
    (first | refine hGx _ ?_ | skip)
    (first | refine dst (cj7 f1 f3 @i64.eq_1 hmb w1 w2 w4) ?_; intro Nx hNx Gx hGx | skip)
    refine ⟨hNb _, ?_⟩
    (first | refine hGx _ ?_ | skip)
    (first | refine dst (cj7 f1 f3 @i64.eq_1 hmb w1 w2 w4) ?_; intro Nx hNx Gx hGx | skip)
    refine tq @i64.eq_1 ?_; intro Nx hNx Gx hGx
    refine rt hret hdf ?_
    exact ⟨_, Heap.le_refl _⟩
  have hil' : (i : Int) < (b.bl.length : Int) := by omega
  have q6 : ((i : Int) < (b.bl.length : Int)) = True := eq_true hil'
  have w3 : IntKind.i64.wrap ((i : Int) + 1) = ((i + 1 : Nat) : Int) := by rw [wrap_i64_of (by have := sm.bl; omega)]; omega
  have hgi := bk_get hil
  have hsl := st_small sm _ (List.getElem_mem hil)
  have htk : b.bl.take (i + 1) = b.bl.take i ++ [b.bl[i]] := List.take_succ_eq_append_getElem hil
  obtain ⟨x, hxx⟩ : ∃ x, x = b.bl[i] := ⟨_, rfl⟩
  rw [← hxx] at hgi hsl htk
  simp only [bkD] at hgi
  refine to (cj13 f1 f3 f18 f19 f20 @i64.eq_1 hmb q6 hgi hx h00 hil hil') ?_; intro Nx hNx Gx hGx
  intro c5 hc5
  refine hNx _ ?_
  have h35 : c3 ≠ c5 := Heap.ne_of hc hc5
  have u35 : ∀ (H : Heap) (x : HObj), (H.upd c5 x) c3 = H c3 := fun _ _ => Heap.upd_ne h35
  show W _ _ _ _
  refine W_seq ?_
  (have fs := @i64.eq_1; refine W_cut (5) (by kernel_rfl) ?_; refine evQ ?_; (try clear fs))
  intro c25 hc25
  have h52 : c5 ≠ c25 := Heap.ne_of (Heap.upd_same _ _ _) hc25
  have u52 : ∀ (H : Heap) (x : HObj), (H.upd c25 x) c5 = H c5 := fun _ _ => Heap.upd_ne h52
  (have fs := And.intro @i64.eq_1 u52; refine evQ ?_; clear fs)
  refine apV_grow (e := 46) ty47 rfl ty47 rfl ty46 rfl (by decide) (Heap.le_new (Heap.le_refl _) hc25) (.inr ⟨c25, 0, rfl, rfl, hc25, Heap.upd_same _ _ _⟩) (els := [nopN]) (new := x.st.map stD) (by exact ⟨rfl, rfl⟩) (by rw [List.length_map]; show (1 + _) * _ ≤ _; omega) fun d2 H2 ob2 hg2 hle2 hk2 => ?_
  refine WL_frzs 28 _ _ hle2 (frz_gl hle2 hg2) ?_
  refine tq (cj4 @i64.eq_1 f3 hc u35) ?_; intro Nx hNx Gx hGx
  refine apV_grow (e := 52) ty26 rfl ty26 rfl ty52 rfl (by decide) (Heap.le_none _) (hg.new hc5) (new := [bkN x]) (by exact ⟨rfl, rfl⟩) (by rw [List.length_map]; have := sm.bl; show (_ + 1) * _ ≤ _; have := List.length_take_le i b.bl; omega) fun d3 H3 ob3 hg3 hle3 hk3 => ?_
  have hc3' := hk3 c3 _ ((u35 _ _).trans hc) hob
  have hc30 := hc3'.1
  have hgk := hg3
  rcases hg3 with ⟨_, _, h⟩ | ⟨cc, oo, _, rfl, _, _⟩
  · simp at h
  (have fs := And.intro @i64.eq_1 hc30; refine evT ?_; try clear fs); (first | refine hGx _ ?_ | refine hNx _ ?_ | skip)
  refine tq (cj3 @i64.eq_1 f20 w3) ?_; intro Nx hNx Gx hGx
  refine ⟨hil, hdf, f1, f18, f19, rfl, f3, _, ob3, Heap.upd_same _ _ _, hc3'.2, ?_⟩
  rw [htk, List.map_append]
  exact hgk.keep fun c e => Heap.upd_ne fun e2 => hc3'.2 (by rw [e, e2])
theorem ValidNops_walk (x0 : X) (v0 : Value) (w : World) (o0 : DT.ok (DT.struct [DT.string, DT.slice 1 16 (DT.string), DT.slice 2 16 (DT.array 2 (DT.int .i64)), DT.slice 5 56 (DT.struct [DT.int .i64, DT.bool, DT.int .i64, DT.int .i64, DT.slice 1 8 (DT.int .i64)]), DT.slice 2 24 (DT.struct [DT.string, DT.int .i64]), DT.int .i64, DT.slice 7 128 (DT.struct [DT.slice 11 136 (DT.struct [DT.int .i64, DT.struct [DT.int .i64, DT.slice 2 16 (DT.struct [DT.int .i64, DT.int .i64])], DT.struct [DT.int .i64, DT.int .i64, DT.int .i64, DT.bool, DT.struct [DT.int .i64, DT.slice 2 16 (DT.struct [DT.int .i64, DT.int .i64])], DT.slice 4 48 (DT.struct [DT.int .i64, DT.struct [DT.int .i64, DT.slice 2 16 (DT.struct [DT.int .i64, DT.int .i64])], DT.int .i64])], DT.int .i64]), DT.struct [DT.int .i64, DT.slice 1 8 (DT.int .i64), DT.slice 4 48 (DT.struct [DT.int .i64, DT.struct [DT.int .i64, DT.slice 2 16 (DT.struct [DT.int .i64, DT.int .i64])], DT.int .i64]), DT.struct [DT.int .i64, DT.slice 2 16 (DT.struct [DT.int .i64, DT.int .i64])], DT.string]])]) x0) (i0 : D.is w Heap.none.others x0.d v0) (hG : GOk w Heap.none) :
    Calls Tryz.prog 8 #[v0] w fun e w' => e = .returned (.bool true) ∧ Below w.heap.size w w' := by
  obtain ⟨a, ha, hoka⟩ := ok_body o0
  rw [ha] at i0
  exact walk_of (lnops_N a hoka) ⟨_, _, rfl, i0, rfl⟩ hG
end Go.Proofs.YtgfhgeelfaalmaaGreatDoor
