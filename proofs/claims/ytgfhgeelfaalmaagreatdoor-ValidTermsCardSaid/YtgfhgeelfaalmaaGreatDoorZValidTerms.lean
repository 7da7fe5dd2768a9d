/- The walk of the law ValidTerms. -/
import Derived.Test.YtgfhgeelfaalmaaGreatDoorK23
import Derived.Test.YtgfhgeelfaalmaaGreatDoorK24
import Derived.Test.YtgfhgeelfaalmaaGreatDoorK05
import Derived.Test.YtgfhgeelfaalmaaGreatDoorK25
import Derived.Test.YtgfhgeelfaalmaaGreatDoorK16
import Derived.Test.YtgfhgeelfaalmaaGreatDoorK20
import Derived.Test.YtgfhgeelfaalmaaGreatDoorK33
import Derived.Test.YtgfhgeelfaalmaaGreatDoorK13
import Derived.Test.YtgfhgeelfaalmaaGreatDoorK11
import Derived.Test.YtgfhgeelfaalmaaGreatDoorK28
import Derived.Test.YtgfhgeelfaalmaaGreatDoorK32
import Derived.Test.YtgfhgeelfaalmaaGreatDoorK36
import Derived.Test.YtgfhgeelfaalmaaGreatDoorK34
import Derived.Test.YtgfhgeelfaalmaaGreatDoorK35
namespace Go.Proofs.YtgfhgeelfaalmaaGreatDoor
open Go.RowKit
set_option maxRecDepth 100000
set_option linter.unusedVariables false
set_option linter.unusedSimpArgs false
set_option maxHeartbeats 1000000 in
theorem kpcheck_N (p : PlS) (H : Heap) (hp : big p.pr.length) : Does Tryz.prog 89 [.agg (plD p)] H fun d H' => d = i64 (chkP p) ∧ H = H' := by
  unfold big at hp
  have hml : (List.map pD p.pr).length = p.pr.length := List.length_map _
  refine Does.frz (K := fun d => d = i64 (chkP p)) ?_
  refine does_of _ _ Tryz.func89 rfl rfl Tryz.ntmps89 Tryz.results89 (by simp only [List.length_cons, List.length_nil]; omega) fun w0 g0 Q hret => ?_
  refine tq (cj2 @i64.eq_1 @plD.eq_1) ?_; intro Nx hNx Gx hGx
  intro c1 hc1
  refine hNx _ ?_
  refine frz 1 hc1 ?_
  by_cases h0 : p.lo < 0
  · have p1 : (p.lo < 0) = True := eq_true h0
    have hd : chkP p = 3 := if_pos h0
    refine tq (cj2 @i64.eq_1 p1) ?_; intro Nx hNx Gx hGx
    refine rt hret @i64.eq_1 ?_
    exact ⟨_, Heap.le_refl _, Heap.le_refl _, _, frz_refl (Heap.le_refl _), by rw [hd]⟩
  have p1 : (p.lo < 0) = False := eq_false h0
  by_cases h1 : 32 < p.pr.length
  · have p2 : ((p.pr.length : Int) > 32) = True := eq_true (by omega)
    have hd : chkP p = 19 := by unfold chkP; rw [if_neg h0, if_pos h1]
    refine tq (cj4 @i64.eq_1 p1 hml p2) ?_; intro Nx hNx Gx hGx
    refine rt hret @i64.eq_1 ?_
    exact ⟨_, Heap.le_refl _, Heap.le_refl _, _, frz_refl (Heap.le_refl _), by rw [hd]⟩
  have p2 : ((p.pr.length : Int) > 32) = False := eq_false (by omega)
  have hd : chkP p = chkPr p.pr := by unfold chkP; rw [if_neg h0, if_neg h1]
  rw [hd] at hret
  refine tq (cj4 @i64.eq_1 p1 hml p2) ?_; intro Nx hNx Gx hGx
  refine W_loopN p.pr.length (fun i s => s.df = [] ∧ s.fr 1 = .rp [i64 p.lo, .seq 2 (p.pr.map pD)] ∧ s.fr 3 = i64 i ∧ H.le s.H ∧ chkPr p.pr = chkPr (p.pr.drop i)) ⟨rfl, rfl, rfl, Heap.le_refl _, rfl⟩ ?_
  rintro i s hi ⟨hdf, f1, f3, hle, hck⟩
  have hx : (i : Int).toNat = i := Int.toNat_natCast _
  have h00 : (0 : Int) ≤ (i : Int) := Int.natCast_nonneg _
  by_cases hil : i < p.pr.length
  case neg =>
    have q1 : ((i : Int) < (p.pr.length : Int)) = False := eq_false (by omega)
    rw [List.drop_eq_nil_of_le (by omega)] at hck
    refine tq (cj5 f1 f3 @i64.eq_1 q1 hml) ?_; intro Nx hNx Gx hGx
    refine rt hret hdf ?_
    exact ⟨_, Heap.le_refl _, hle, _, frz_refl hle, by rw [hck]; rfl⟩
  have hil' : (i : Int) < (p.pr.length : Int) := by omega
  have q1 : ((i : Int) < (p.pr.length : Int)) = True := eq_true hil'
  have w3 : IntKind.i64.wrap ((i : Int) + 1) = ((i + 1 : Nat) : Int) := by rw [wrap_i64_of (by omega)]; omega
  have hgi := get_prs hil
  rw [chkPr_drop hil] at hck
  rcases he : p.pr[i] with ⟨k, f⟩
  rw [he] at hck hgi
  simp only at hgi
  refine tq (cj9 f1 f3 @i64.eq_1 q1 hml hgi hx h00 hil) ?_; intro Nx hNx Gx hGx
  intro c4 hc4
  refine hNx _ ?_
  have hc40 : H c4 = none := by
    cases e : H c4 with
    | none => rfl
    | some y => rw [hle c4 y e] at hc4; cases hc4
  have hle4 := Heap.le_put (x := .row 107 0 2 [[i64 k, i64 f]]) hle hc40
  have z4 : (s.H.upd c4 (.row 107 0 2 [[i64 k, i64 f]])) c4 = some (.row 107 0 2 [[i64 k, i64 f]]) := Heap.upd_same _ _ _
  have hk2 : chkJ (k, f) = if k ≠ 0 ∧ k ≠ 1 then 14 else if k = 0 ∧ f ≠ 0 then 2 else if f < 0 then 3 else 0 := rfl
  rcases tfB (k = 0) with ⟨_, k0, ⟨rfl, h0⟩ | ⟨rfl, h0⟩⟩
  · rcases tfB (f = 0) with ⟨_, f0, ⟨rfl, h1⟩ | ⟨rfl, h1⟩⟩
    · have f7 : (f < 0) = False := eq_false (by omega)
      rw [if_neg (fun h => h.1 h0), if_neg (fun h => h.2 h1), if_neg (by omega)] at hk2
      rw [if_neg (fun h => h hk2)] at hck
      refine tq (cj8 f1 f3 @i64.eq_1 w3 k0 z4 f0 f7) ?_; intro Nx hNx Gx hGx; exact ⟨hil, hdf, f1, rfl, hle4, hck⟩
    · rw [if_neg (fun h => h.1 h0), if_pos ⟨h0, h1⟩] at hk2
      rw [if_pos (by rw [hk2]; decide), hk2] at hck
      refine tq (cj7 f1 f3 @i64.eq_1 w3 k0 z4 f0) ?_; intro Nx hNx Gx hGx; refine rt hret hdf ?_; exact ⟨_, Heap.le_refl _, hle4, _, frz_refl hle4, by rw [hck]; rfl⟩
  rcases tfB (k = 1) with ⟨_, k1, ⟨rfl, h2⟩ | ⟨rfl, h2⟩⟩
  case inr =>
    rw [if_pos ⟨h0, h2⟩] at hk2
    rw [if_pos (by rw [hk2]; decide), hk2] at hck
    refine tq (cj7 f1 f3 @i64.eq_1 w3 k0 z4 k1) ?_; intro Nx hNx Gx hGx; refine rt hret hdf ?_; exact ⟨_, Heap.le_refl _, hle4, _, frz_refl hle4, by rw [hck]; rfl⟩
  rcases tfB (f < 0) with ⟨_, f7, ⟨rfl, h1⟩ | ⟨rfl, h1⟩⟩
  · rw [if_neg (fun h => h.2 h2), if_neg (fun h => h0 h.1), if_pos h1] at hk2
    rw [if_pos (by rw [hk2]; decide), hk2] at hck
    refine tq (cj8 f1 f3 @i64.eq_1 w3 k0 z4 k1 f7) ?_; intro Nx hNx Gx hGx; refine rt hret hdf ?_; exact ⟨_, Heap.le_refl _, hle4, _, frz_refl hle4, by rw [hck]; rfl⟩
  · rw [if_neg (fun h => h.2 h2), if_neg (fun h => h0 h.1), if_neg h1] at hk2
    rw [if_neg (fun h => h hk2)] at hck
    refine tq (cj8 f1 f3 @i64.eq_1 w3 k0 z4 k1 f7) ?_; intro Nx hNx Gx hGx; exact ⟨hil, hdf, f1, rfl, hle4, hck⟩
theorem chkPr_app : ∀ (l m : List (Int × Int)), chkPr (l ++ m) = 0 → chkPr l = 0 ∧ chkPr m = 0
  | [], m, h => ⟨rfl, h⟩
  | x :: l, m, h => by
    simp only [List.cons_append, chkPr] at h ⊢
    by_cases h1 : chkJ x ≠ 0
    · rw [if_pos h1] at h; exact absurd h h1
    · rw [if_neg h1] at h ⊢
      exact chkPr_app l m h
theorem chkP_app {a : Int} {l m : List (Int × Int)} (h : chkP ⟨a, l ++ m⟩ = 0) : chkP ⟨a, l⟩ = 0 := by
  obtain ⟨h1, h2, h3⟩ := chkP_lo h
  simp only [List.length_append] at h1 h2
  have h4 := (chkPr_app l m h3).1
  unfold chkP
  rw [if_neg (by simp only; omega), if_neg (by simp only; omega)]
  exact h4
theorem typeOf_snoc {ts : List TyS} {lc : List LcS} {a : Int} {l : List (Int × Int)} {x : Int × Int} (h : chkP ⟨a, l ++ [x]⟩ = 0) (h2 : a < lc.length) :
    typeOfP ts lc ⟨a, l ++ [x]⟩ = if (typeOfP ts lc ⟨a, l⟩).2 ≠ 0 then (0, (typeOfP ts lc ⟨a, l⟩).2) else prjP ts (typeOfP ts lc ⟨a, l⟩).1 x := by
  have h3 := chkP_app h
  have e1 : typeOfP ts lc ⟨a, l ++ [x]⟩ = tyP ts (lcAt lc a).ty (l ++ [x]) := by
    unfold typeOfP; rw [if_neg (fun k => k h), if_neg (by simp only; omega)]
  have e2 : typeOfP ts lc ⟨a, l⟩ = tyP ts (lcAt lc a).ty l := by
    unfold typeOfP; rw [if_neg (fun k => k h3), if_neg (by simp only; omega)]
  rw [e1, e2]
  by_cases h4 : (tyP ts (lcAt lc a).ty l).2 = 0
  · rw [if_neg (fun k => k h4), tyP_snoc_o h4]
  · rw [if_pos h4, tyP_snoc_e h4]
    have := tyP_err _ _ h4
    rw [← this]
set_option maxHeartbeats 2000000 in
theorem ktypeOf_N (ts : List TyS) (lc : List LcS) (hw : wfT ts) (hl : wfL ts lc) (ha : arN ts) : ∀ (n : Nat) (p : PlS) (H : Heap), p.pr.length = n → big p.pr.length → Does Tryz.prog 66 [.seq 5 (ts.map tyD), .seq 2 (lc.map lcD), .agg (plD p)] H fun d H' => d = .tup [i64 (typeOfP ts lc p).1, i64 (typeOfP ts lc p).2] ∧ H = H' := by
  have hmc : (List.map lcD lc).length = lc.length := List.length_map _
  have hmt : (List.map tyD ts).length = ts.length := List.length_map _
  intro n
  induction n with
  | zero =>
    rintro ⟨a, l⟩ H hn hp
    have hl0 : l = [] := List.eq_nil_of_length_eq_zero hn
    subst hl0
    refine Does.frz (K := fun d => d = .tup [i64 (typeOfP ts lc ⟨a, []⟩).1, i64 (typeOfP ts lc ⟨a, []⟩).2]) ?_
    have hle9 := Heap.le_refl H
    have hck := kpcheck_N ⟨a, []⟩ H hp
    obtain ⟨y, hy⟩ : ∃ y, y = typeOfP ts lc ⟨a, []⟩ := ⟨_, rfl⟩
    rw [← hy]
    simp only [plD, List.map_nil] at hck
    refine does_of _ _ Tryz.func66 rfl rfl Tryz.ntmps66 Tryz.results66 (by simp only [List.length_cons, List.length_nil]; omega) fun w0 g0 Q hret => ?_
    refine tq (cj2 @i64.eq_1 @plD.eq_1) ?_; intro Nx hNx Gx hGx
    intro c5 hc5
    refine hNx _ ?_
    refine frz 5 hc5 ?_
    refine tq @i64.eq_1 ?_; intro Nx hNx Gx hGx
    refine hck.mono ?_
    rintro d _ ⟨rfl, rfl⟩
    by_cases h1 : chkP ⟨a, []⟩ = 0
    case neg =>
      have q1 : (chkP ⟨a, []⟩ = 0) = False := eq_false h1
      have e : y = (0, chkP ⟨a, []⟩) := hy.trans (if_pos h1)
      refine tq (cj2 @i64.eq_1 q1) ?_; intro Nx hNx Gx hGx; refine rt hret @i64.eq_1 ?_; exact ⟨_, Heap.le_refl _, hle9, _, frz_refl hle9, by rw [e]⟩
    have q1 : (chkP ⟨a, []⟩ = 0) = True := eq_true h1
    by_cases h2 : (lc.length : Int) ≤ a
    · have q2 : (a ≥ (lc.length : Int)) = True := eq_true h2
      have e : y = (0, 3) := hy.trans (by unfold typeOfP; rw [if_neg (fun k => k h1)]; exact if_pos h2)
      refine tq (cj4 @i64.eq_1 q1 q2 hmc) ?_; intro Nx hNx Gx hGx; refine rt hret @i64.eq_1 ?_; exact ⟨_, Heap.le_refl _, hle9, _, frz_refl hle9, by rw [e]⟩
    have q2 : (a ≥ (lc.length : Int)) = False := eq_false h2
    have hin : 0 ≤ a ∧ a < lc.length := ⟨(chkP_lo h1).1, by omega⟩
    have h00 := hin.1
    have hil : a.toNat < lc.length := by omega
    have hgl := get_lcs hin
    simp only [lcD] at hgl
    have e : y = ((lcAt lc a).ty, 0) := hy.trans (by unfold typeOfP; rw [if_neg (fun k => k h1), if_neg h2]; rfl)
    refine tq (cj7 @i64.eq_1 q1 q2 hmc hgl hil h00) ?_; intro Nx hNx Gx hGx; refine rt hret @i64.eq_1 ?_; exact ⟨_, Heap.le_refl _, hle9, _, frz_refl hle9, by rw [e]⟩
  | succ n ih =>
    rintro ⟨a, l0⟩ H hn hp
    obtain ⟨l, x, rfl⟩ : ∃ l x, l0 = l ++ [x] := by
      rcases List.eq_nil_or_concat l0 with h | ⟨l, x, h⟩
      · subst h; cases hn
      · exact ⟨l, x, by rw [h, List.concat_eq_append]⟩
    have hll : l.length = n := by simpa using hn
    refine Does.frz (K := fun d => d = .tup [i64 (typeOfP ts lc ⟨a, l ++ [x]⟩).1, i64 (typeOfP ts lc ⟨a, l ++ [x]⟩).2]) ?_
    have hle9 := Heap.le_refl H
    have hck := kpcheck_N ⟨a, l ++ [x]⟩ H hp
    obtain ⟨y, hy⟩ : ∃ y, y = typeOfP ts lc ⟨a, l ++ [x]⟩ := ⟨_, rfl⟩
    rw [← hy]
    obtain ⟨L, hL⟩ : ∃ L, L = (l ++ [x]).map pD := ⟨_, rfl⟩
    have hLl : L.length = l.length + 1 := by rw [hL]; simp
    have hLt : L.take l.length = l.map pD := by rw [hL, List.map_append, ← List.length_map pD, List.take_left]
    have hLg : L[l.length]? = some (pD x) := by rw [hL, List.map_append]; simp
    simp only [plD] at hck
    rw [← hL] at hck
    refine does_of _ _ Tryz.func66 rfl rfl Tryz.ntmps66 Tryz.results66 (by simp only [List.length_cons, List.length_nil]; omega) fun w0 g0 Q hret => ?_
    simp only [plD]
    rw [← hL]
    have hsm : l.length ≤ 140737488351232 := by unfold big at hp; simp only [List.length_append, List.length_singleton] at hp; omega
    obtain ⟨m, hm⟩ : ∃ m, m = chkP ⟨a, l ++ [x]⟩ := ⟨_, rfl⟩
    rw [← hm] at hck
    refine tq @i64.eq_1 ?_; intro Nx hNx Gx hGx
    intro c5 hc5
    refine hNx _ ?_
    refine frz 5 hc5 ?_
    refine tq @i64.eq_1 ?_; intro Nx hNx Gx hGx
    refine hck.mono ?_
    rintro d _ ⟨rfl, rfl⟩
    by_cases h1 : m = 0
    case neg =>
      have q1 : (m = 0) = False := eq_false h1
      have e : y = (0, m) := hy.trans (by rw [hm] at h1 ⊢; exact if_pos h1)
      refine tq (cj2 @i64.eq_1 q1) ?_; intro Nx hNx Gx hGx; refine rt hret @i64.eq_1 ?_; exact ⟨_, Heap.le_refl _, hle9, _, frz_refl hle9, by rw [e]⟩
    have q1 : (m = 0) = True := eq_true h1
    by_cases h2 : (lc.length : Int) ≤ a
    · have q2 : (a ≥ (lc.length : Int)) = True := eq_true h2
      have e : y = (0, 3) := hy.trans (by unfold typeOfP; rw [if_neg (fun k => k (hm.symm.trans h1))]; exact if_pos h2)
      refine tq (cj4 @i64.eq_1 q1 q2 hmc) ?_; intro Nx hNx Gx hGx; refine rt hret @i64.eq_1 ?_; exact ⟨_, Heap.le_refl _, hle9, _, frz_refl hle9, by rw [e]⟩
    have q2 : (a ≥ (lc.length : Int)) = False := eq_false h2
    have hc0 : chkP ⟨a, l ++ [x]⟩ = 0 := hm.symm.trans h1
    have hys := hy.trans (typeOf_snoc (ts := ts) hc0 (by omega))
    have hin : 0 ≤ a ∧ a < lc.length := ⟨(chkP_lo hc0).1, by omega⟩
    have hxf : 0 ≤ x.2 := (chkPr_nn (chkP_lo hc0).2.2 x (by simp)).2
    have q3 : (((l.length + 1 : Nat) : Int) = 0) = False := eq_false (by omega)
    have w3 : IntKind.i64.wrap (((l.length + 1 : Nat) : Int) - 1) = (l.length : Int) := by rw [wrap_i64_of (by omega)]; omega
    have hx : (l.length : Int).toNat = l.length := Int.toNat_natCast _
    have h00 : (0 : Int) ≤ (l.length : Int) := Int.natCast_nonneg _
    have hlL : l.length ≤ L.length := by omega
    have hbl : big (⟨a, l⟩ : PlS).pr.length := by unfold big; show l.length ≤ _; omega
    have hcall : ∀ H1, CallOK Tryz.prog 66 [.seq 5 (ts.map tyD), .seq 2 (lc.map lcD), .agg [i64 a, .seq 2 (l.map pD)]] H1 fun d A => A = Heap.none ∧ d = .tup [i64 (typeOfP ts lc ⟨a, l⟩).1, i64 (typeOfP ts lc ⟨a, l⟩).2] := fun H1 => callOK_eq fun H'' hle'' => ih ⟨a, l⟩ H'' hll hbl
    obtain ⟨z, hz⟩ : ∃ z, z = typeOfP ts lc ⟨a, l⟩ := ⟨_, rfl⟩
    have hzi : z.2 = 0 → InR ts.length z.1 := fun h => by rw [hz] at h ⊢; exact typeOf_in hw hl h
    rw [← hz] at hcall hys
    refine tq (cj6 @i64.eq_1 q1 q2 hmc hLl q3) ?_; intro Nx hNx Gx hGx
    refine W_drawE (fun _ _ d A => A = .none ∧ d = .tup [i64 z.1, i64 z.2]) (by kernel_rfl) (by kernel_rfl) (by kernel_rfl) fun Nx hNx => ?_; refine dst (cj7 @i64.eq_1 w3 hx h00 hLt hLl hlL) ?_; intro Nx hNx Gx hGx
    refine ⟨by omega, hcall _, ?_⟩
    refine dst @i64.eq_1 ?_; intro Nx hNx Gx hGx
    by_cases h5 : z.2 = 0
    case neg =>
      have q5 : (z.2 = 0) = False := eq_false h5
      have e : y = (0, z.2) := hys.trans (if_pos h5)
      refine tq (cj2 @i64.eq_1 q5) ?_; intro Nx hNx Gx hGx; refine rt hret @i64.eq_1 ?_; exact ⟨_, Heap.le_refl _, hle9, _, frz_refl hle9, by rw [e]⟩
    have q5 : (z.2 = 0) = True := eq_true h5
    rw [if_neg (fun k => k h5)] at hys
    have hzn := hzi h5
    have hgt := ty_get hzn
    have hti : z.1.toNat < ts.length := by unfold InR at hzn; omega
    have ht0 : 0 ≤ z.1 := by unfold InR at hzn; omega
    have hpp : prjP ts z.1 x = if x.1 = 0 ∧ (tyAt ts z.1).k = 3 then ((tyAt ts z.1).e, 0) else if x.1 = 1 ∧ (tyAt ts z.1).k = 4 then (if x.2 < (tyAt ts z.1).ar.length then ((tyAt ts z.1).ar.getD x.2.toNat 0, 0) else (0, 3)) else (0, 22) := rfl
    rw [hpp] at hys
    obtain ⟨t, ht⟩ : ∃ t, t = tyAt ts z.1 := ⟨_, rfl⟩
    rw [← ht] at hgt hys
    have hta : t.ar.length ≤ 1000000 := by rw [ht]; exact ha _ (tyAt_in hzn)
    clear hpp ht hcall hzi
    obtain ⟨tk, tm, tr, te, ta⟩ := t
    obtain ⟨k, f⟩ := x
    simp only [tyD] at hgt
    simp only [pD] at hLg
    simp only at hta hys hxf
    have hla : (List.map iD ta).length = ta.length := List.length_map _
    have hlL2 : l.length < L.length := by omega
    refine tq (cj6 @i64.eq_1 q5 hgt hti ht0 hmt) ?_; intro Nx hNx Gx hGx
    intro c11 hc11
    refine hNx _ ?_
    refine frz 11 hc11 ?_
    refine tq (cj7 @i64.eq_1 w3 hLg hx h00 hLl hlL2) ?_; intro Nx hNx Gx hGx
    intro c12 hc12
    refine hNx _ ?_
    refine frz 12 hc12 ?_
    rcases tfB (k = 0) with ⟨_, k0, ⟨rfl, h0⟩ | ⟨rfl, h0⟩⟩
    · have k1 : (k = 1) = False := eq_false (by omega)
      rcases tfB (tk = 3) with ⟨_, q7, ⟨rfl, h3⟩ | ⟨rfl, h3⟩⟩
      · have e : y = (te, 0) := hys.trans (if_pos ⟨h0, h3⟩)
        refine tq (cj3 @i64.eq_1 k0 q7) ?_; intro Nx hNx Gx hGx; refine rt hret @i64.eq_1 ?_; exact ⟨_, Heap.le_refl _, hle9, _, frz_refl hle9, by rw [e]⟩
      · have e : y = (0, 22) := hys.trans (by rw [if_neg (fun h => h3 h.2), if_neg (fun h => by omega)])
        refine tq (cj4 @i64.eq_1 k0 q7 k1) ?_; intro Nx hNx Gx hGx; refine rt hret @i64.eq_1 ?_; exact ⟨_, Heap.le_refl _, hle9, _, frz_refl hle9, by rw [e]⟩
    rcases tfB (k = 1) with ⟨_, k1, ⟨rfl, h1⟩ | ⟨rfl, h1⟩⟩
    case inr =>
      have e : y = (0, 22) := hys.trans (by rw [if_neg (fun h => h0 h.1), if_neg (fun h => h1 h.1)])
      refine tq (cj3 @i64.eq_1 k0 k1) ?_; intro Nx hNx Gx hGx; refine rt hret @i64.eq_1 ?_; exact ⟨_, Heap.le_refl _, hle9, _, frz_refl hle9, by rw [e]⟩
    rcases tfB (tk = 4) with ⟨_, q8, ⟨rfl, h4⟩ | ⟨rfl, h4⟩⟩
    case inr =>
      have e : y = (0, 22) := hys.trans (by rw [if_neg (fun h => h0 h.1), if_neg (fun h => h4 h.2)])
      refine tq (cj4 @i64.eq_1 k0 k1 q8) ?_; intro Nx hNx Gx hGx; refine rt hret @i64.eq_1 ?_; exact ⟨_, Heap.le_refl _, hle9, _, frz_refl hle9, by rw [e]⟩
    rw [if_neg (fun h => h0 h.1), if_pos ⟨h1, h4⟩] at hys
    by_cases h6 : f < (ta.length : Int)
    · have q9 : (f ≥ (ta.length : Int)) = False := eq_false (by omega)
      have hfl : f.toNat < ta.length := by omega
      have hgf : (ta.map iD)[f.toNat]? = some [i64 ta[f.toNat]] := get_ints hfl
      have e : y = (ta[f.toNat], 0) := hys.trans (by rw [if_pos h6, List.getD_eq_getElem?_getD, List.getElem?_eq_getElem hfl]; rfl)
      refine tq (cj9 @i64.eq_1 k0 k1 q8 q9 hgf hxf hfl hla) ?_; intro Nx hNx Gx hGx; refine rt hret @i64.eq_1 ?_; exact ⟨_, Heap.le_refl _, hle9, _, frz_refl hle9, by rw [e]⟩
    · have q9 : (f ≥ (ta.length : Int)) = True := eq_true (by omega)
      have e : y = (0, 3) := hys.trans (if_neg h6)
      refine tq (cj6 @i64.eq_1 k0 k1 q8 q9 hla) ?_; intro Nx hNx Gx hGx; refine rt hret @i64.eq_1 ?_; exact ⟨_, Heap.le_refl _, hle9, _, frz_refl hle9, by rw [e]⟩
theorem tyP_pre {ts : List TyS} {m : List (Int × Int)} : ∀ {l : List (Int × Int)} {i : Int}, (tyP ts i (l ++ m)).2 = 0 → (tyP ts i l).2 = 0
  | [], i, _ => rfl
  | y :: l, i, h => by
    rw [List.cons_append] at h
    by_cases h1 : (prjP ts i y).2 = 0
    · rw [tyP_o h1] at h ⊢; exact tyP_pre h
    · rw [tyP_e h1] at h; exact absurd h h1
theorem refP_snoc {ts : List TyS} {x : Int × Int} : ∀ {l : List (Int × Int)} {i : Int}, (tyP ts i l).2 = 0 → refP ts i (l ++ [x]) = refP ts i l ++ (if x.1 = 0 then [tyAt ts (tyP ts i l).1] else [])
  | [], i, _ => by simp [refP, tyP]
  | y :: l, i, h => by
    have h1 : (prjP ts i y).2 = 0 := Classical.byContradiction fun h1 => by rw [tyP_e h1] at h; exact h1 h
    rw [tyP_o h1] at h ⊢
    simp only [List.cons_append, refP]
    rw [refP_snoc h, List.append_assoc]
theorem typeOf_pre {ts : List TyS} {lc : List LcS} {p : PlS} (h : (typeOfP ts lc p).2 = 0) (i : Nat) : typeOfP ts lc ⟨p.lo, p.pr.take i⟩ = tyP ts (lcAt lc p.lo).ty (p.pr.take i) ∧ (tyP ts (lcAt lc p.lo).ty (p.pr.take i)).2 = 0 := by
  obtain ⟨h1, h2, h3⟩ := typeOf_ok h
  obtain ⟨a, l⟩ := p
  have h4 : chkP ⟨a, l.take i ++ l.drop i⟩ = 0 := by rw [List.take_append_drop]; exact h1
  have h5 := chkP_app h4
  refine ⟨?_, tyP_pre (m := l.drop i) ?_⟩
  · unfold typeOfP
    simp only at h2 ⊢
    rw [if_neg (fun k => k h5), if_neg (by omega)]
  · rw [List.take_append_drop, ← h3]; exact h
set_option maxHeartbeats 1000000 in
theorem krefs_N (ts : List TyS) (lc : List LcS) (p : PlS) (H : Heap) (hw : wfT ts) (hl : wfL ts lc) (ha : arN ts) (hp : big p.pr.length) (hok : (typeOfP ts lc p).2 = 0) : Does Tryz.prog 90 [.seq 5 (ts.map tyD), .seq 2 (lc.map lcD), .agg (plD p)] H fun d H' => d = .seq 5 ((refsP ts lc p).map tyD) ∧ H = H' := by
  refine Does.frz (K := fun d => d = .seq 5 ((refsP ts lc p).map tyD)) ?_
  have hrp : refsP ts lc p = refP ts (lcAt lc p.lo).ty p.pr := if_neg fun h => h hok
  obtain ⟨ty, hty⟩ : ∃ ty, ty = (lcAt lc p.lo).ty := ⟨_, rfl⟩
  rw [hrp, ← hty]
  have hpre := fun i => typeOf_pre hok i
  rw [← hty] at hpre
  have htin : InR ts.length ty := by rw [hty]; exact lcAt_in hl (typeOf_ok hok).2.1
  have hpl := (chkP_lo (typeOf_ok hok).1).2.1
  have hml : (List.map pD p.pr).length = p.pr.length := List.length_map _
  have hmt : (List.map tyD ts).length = ts.length := List.length_map _
  refine does_of _ _ Tryz.func90 rfl rfl Tryz.ntmps90 Tryz.results90 (by simp only [List.length_cons, List.length_nil]; omega) fun w0 g0 Q hret => ?_
  refine tq (cj2 @i64.eq_1 @plD.eq_1) ?_; intro Nx hNx Gx hGx
  intro c5 hc5
  refine hNx _ ?_
  refine frz 5 hc5 ?_
  refine tq @i64.eq_1 ?_; intro Nx hNx Gx hGx
  refine W_loopN p.pr.length (fun i s => s.df = [] ∧ s.fr 0 = .seq 5 (ts.map tyD) ∧ s.fr 1 = .seq 2 (lc.map lcD) ∧ s.fr 5 = .rp [i64 p.lo, .seq 2 (p.pr.map pD)] ∧ s.fr 8 = i64 i ∧ H.le s.H ∧ ∃ ob, Gl H 62 5 ((refP ts ty (p.pr.take i)).map tyD) (s.fr 7) s.H ob) ⟨rfl, rfl, rfl, rfl, rfl, Heap.le_refl _, none, Gl.nil _ _ _ _⟩ ?_
  rintro i s hi ⟨hdf, f0, f1, f5, f8, hle, ob, hg⟩
  have hx : (i : Int).toNat = i := Int.toNat_natCast _
  have h00 : (0 : Int) ≤ (i : Int) := Int.natCast_nonneg _
  by_cases hil : i < p.pr.length
  case neg =>
    have q6 : ((i : Int) < (p.pr.length : Int)) = False := eq_false (by omega)
    rw [List.take_of_length_le (by omega)] at hg
    refine tq (cj5 f5 f8 @i64.eq_1 q6 hml) ?_; intro Nx hNx Gx hGx
    refine rt hret hdf ?_
    exact ⟨_, Heap.le_refl _, hle, _, frz_gl hle hg, rfl⟩
  have q6 : ((i : Int) < (p.pr.length : Int)) = True := eq_true (by omega)
  have w3 : IntKind.i64.wrap ((i : Int) + 1) = ((i + 1 : Nat) : Int) := by rw [wrap_i64_of (by omega)]; omega
  have hgi := get_prs hil
  obtain ⟨e1, e2⟩ := hpre i
  have hsn : refP ts ty (p.pr.take (i + 1)) = refP ts ty (p.pr.take i) ++ (if p.pr[i].1 = 0 then [tyAt ts (tyP ts ty (p.pr.take i)).1] else []) := by
    rw [List.take_succ_eq_append_getElem hil]
    exact refP_snoc e2
  by_cases h0 : p.pr[i].1 = 0
  case neg =>
    have q7 : (p.pr[i].1 = 0) = False := eq_false h0
    rw [if_neg h0, List.append_nil] at hsn
    rw [← hsn] at hg
    refine tq (cj11 f5 f8 @i64.eq_1 q6 hml hgi hx h00 hil q7 w3) ?_; intro Nx hNx Gx hGx
    exact ⟨hil, hdf, f0, f1, f5, rfl, hle, ob, hg⟩
  have q7 : (p.pr[i].1 = 0) = True := eq_true h0
  rw [if_pos h0] at hsn
  have hin : InR ts.length (tyP ts ty (p.pr.take i)).1 := tyP_in hw _ _ htin e2
  have hbt : big (⟨p.lo, p.pr.take i⟩ : PlS).pr.length := by unfold big; show (p.pr.take i).length ≤ _; rw [List.length_take]; omega
  have hcall : ∀ H1, CallOK Tryz.prog 66 [.seq 5 (ts.map tyD), .seq 2 (lc.map lcD), .agg [i64 p.lo, .seq 2 ((p.pr.take i).map pD)]] H1 fun d A => A = Heap.none ∧ d = .tup [i64 (typeOfP ts lc ⟨p.lo, p.pr.take i⟩).1, i64 (typeOfP ts lc ⟨p.lo, p.pr.take i⟩).2] := fun H1 => callOK_eq fun H'' hle'' => ktypeOf_N ts lc hw hl ha _ ⟨p.lo, p.pr.take i⟩ H'' rfl hbt
  rw [e1, e2] at hcall
  obtain ⟨z, hz⟩ : ∃ z, z = (tyP ts ty (p.pr.take i)).1 := ⟨_, rfl⟩
  rw [← hz] at hcall hin hsn
  have hgt := ty_get hin
  have hti : z.toNat < ts.length := by unfold InR at hin; omega
  have ht0 : 0 ≤ z := by unfold InR at hin; omega
  obtain ⟨t, ht⟩ : ∃ t, t = tyAt ts z := ⟨_, rfl⟩
  rw [← ht] at hgt hsn
  have hrl := refP_len ts (p.pr.take i) ty
  rw [List.length_take] at hrl
  obtain ⟨els, hels⟩ : ∃ els, els = (refP ts ty (p.pr.take i)).map tyD := ⟨_, rfl⟩
  have hell : els.length ≤ 33 := by rw [hels, List.length_map]; omega
  have hsn2 : (refP ts ty (p.pr.take (i + 1))).map tyD = els ++ [tyD t] := by rw [hsn, List.map_append, hels]; rfl
  rw [← hels] at hg
  clear hels hsn
  have hlt : i ≤ p.pr.length := by omega
  have hmk : List.take i (List.map pD p.pr) = (p.pr.take i).map pD := by rw [List.map_take]
  simp only [tyD] at hgt
  refine tq (cj10 f5 f8 @i64.eq_1 q6 hml hgi hx h00 hil q7) ?_; intro Nx hNx Gx hGx
  refine W_drawE (fun _ _ d A => A = .none ∧ d = .tup [i64 z, i64 0]) (by kernel_rfl) (by kernel_rfl) (by kernel_rfl) fun Nx hNx => ?_; refine dst (cj10 f0 f1 f5 f8 @i64.eq_1 hx h00 hml hmk hlt) ?_; intro Nx hNx Gx hGx
  refine ⟨by omega, hcall _, ?_⟩
  refine dst (cj5 f0 f1 f5 f8 @i64.eq_1) ?_; intro Nx hNx Gx hGx
  refine tq (cj6 f0 @i64.eq_1 hgt hti ht0 hmt) ?_; intro Nx hNx Gx hGx
  refine apV_grow (e := 62) ty24 rfl ty24 rfl ty62 rfl (by decide) hle hg (new := [tyD t]) (by exact ⟨rfl, rfl⟩) (by show (_ + 1) * 56 ≤ _; omega) fun d H6 ob6 hg6 hle6 hp6 => ?_
  rw [← hsn2] at hg6
  refine tq (cj3 f8 @i64.eq_1 w3) ?_; intro Nx hNx Gx hGx
  exact ⟨hil, hdf, f0, f1, f5, rfl, hle6, ob6, hg6⟩
set_option maxHeartbeats 1000000 in
theorem kmut_N (ts : List TyS) (lc : List LcS) (p : PlS) (H : Heap) (hw : wfT ts) (hl : wfL ts lc) (ha : arN ts) (hp : big p.pr.length) : Does Tryz.prog 67 [.seq 5 (ts.map tyD), .seq 2 (lc.map lcD), .agg (plD p)] H fun d H' => d = .val (.bool (mutP ts lc p)) ∧ H = H' := by
  refine Does.frz (K := fun d => d = .val (.bool (mutP ts lc p))) ?_
  have hle := Heap.le_refl H
  have hty := ktypeOf_N ts lc hw hl ha _ p H rfl hp
  have hrl := refsP_len ts lc p
  have hkr := krefs_N ts lc p H hw hl ha hp
  simp only [plD] at hty hkr
  refine does_of _ _ Tryz.func67 rfl rfl Tryz.ntmps67 Tryz.results67 (by simp only [List.length_cons, List.length_nil]; omega) fun w0 g0 Q hret => ?_
  refine tq (cj2 @i64.eq_1 @plD.eq_1) ?_; intro Nx hNx Gx hGx
  intro c5 hc5
  refine hNx _ ?_
  refine frz 5 hc5 ?_
  refine tq @i64.eq_1 ?_; intro Nx hNx Gx hGx
  refine hty.mono ?_
  rintro d _ ⟨rfl, rfl⟩
  by_cases h0 : (typeOfP ts lc p).2 = 0
  case neg =>
    have q1 : ((typeOfP ts lc p).2 = 0) = False := eq_false h0
    have hres : mutP ts lc p = false := by unfold mutP; rw [decide_eq_false h0, Bool.false_and]
    refine tq (cj2 @i64.eq_1 q1) ?_; intro Nx hNx Gx hGx
    refine rt hret @i64.eq_1 ?_
    exact ⟨_, Heap.le_refl _, hle, _, frz_refl hle, by rw [hres]⟩
  have q1 : ((typeOfP ts lc p).2 = 0) = True := eq_true h0
  have hkr := hkr h0
  have hres : mutP ts lc p = (refsP ts lc p).all (·.m) := by unfold mutP; rw [decide_eq_true h0, Bool.true_and]
  obtain ⟨l, hL⟩ : ∃ l, l = refsP ts lc p := ⟨_, rfl⟩
  rw [← hL] at hrl hkr hres
  have hml : (List.map tyD l).length = l.length := List.length_map _
  refine tq (cj2 @i64.eq_1 q1) ?_; intro Nx hNx Gx hGx
  refine hkr.mono ?_
  rintro d _ ⟨rfl, rfl⟩
  refine tq @i64.eq_1 ?_; intro Nx hNx Gx hGx
  refine W_loopN l.length (fun i s => s.df = [] ∧ s.fr 9 = .seq 5 (l.map tyD) ∧ s.fr 10 = i64 i ∧ s.H = H ∧ l.all (·.m) = (l.drop i).all (·.m)) ⟨rfl, rfl, rfl, rfl, rfl⟩ ?_
  rintro i s hi ⟨hdf, f9, f10, hH, hal⟩
  have hx : (i : Int).toNat = i := Int.toNat_natCast _
  have h00 : (0 : Int) ≤ (i : Int) := Int.natCast_nonneg _
  have hleS : H.le s.H := by rw [hH]; exact Heap.le_refl _
  by_cases hil : i < l.length
  case neg =>
    have q6 : ((i : Int) < (l.length : Int)) = False := eq_false (by omega)
    rw [List.drop_eq_nil_of_le (by omega)] at hal
    refine tq (cj5 f9 f10 @i64.eq_1 q6 hml) ?_; intro Nx hNx Gx hGx
    refine rt hret hdf ?_
    exact ⟨_, Heap.le_refl _, hleS, _, frz_refl hleS, by rw [hres, hal]; rfl⟩
  have q6 : ((i : Int) < (l.length : Int)) = True := eq_true (by omega)
  have w3 : IntKind.i64.wrap ((i : Int) + 1) = ((i + 1 : Nat) : Int) := by rw [wrap_i64_of (by omega)]; omega
  have hgi : (l.map tyD)[i]? = some (tyD l[i]) := by rw [List.getElem?_map, List.getElem?_eq_getElem hil]; rfl
  rw [List.drop_eq_getElem_cons hil, List.all_cons] at hal
  obtain ⟨u, hu⟩ : ∃ u, u = l[i] := ⟨_, rfl⟩
  rw [← hu] at hgi hal
  clear hu
  obtain ⟨uk, um, ur, ue, ua⟩ := u
  simp only [tyD] at hgi
  simp only at hal
  cases um
  · rw [Bool.false_and] at hal
    refine tq (cj9 f9 f10 @i64.eq_1 q6 hml hgi hx h00 hil) ?_; intro Nx hNx Gx hGx
    refine rt hret hdf ?_
    exact ⟨_, Heap.le_refl _, hleS, _, frz_refl hleS, by rw [hres, hal]⟩
  · rw [Bool.true_and] at hal
    refine tq (cj10 f9 f10 @i64.eq_1 q6 hml hgi hx h00 hil w3) ?_; intro Nx hNx Gx hGx
    exact ⟨hil, hdf, f9, rfl, hH, hal⟩
theorem khasDr_N (p : PlS) (H : Heap) (hp : big p.pr.length) : Does Tryz.prog 37 [.agg (plD p), i64 0] H fun d H' => d = .val (.bool (hasDr p 0)) ∧ H = H' := by
  refine Does.frz (K := fun d => d = .val (.bool (hasDr p 0))) ?_
  have hres : hasDr p 0 = p.pr.any fun x => decide (x.1 = 0) := rfl
  have hml : (List.map pD p.pr).length = p.pr.length := List.length_map _
  have hle := Heap.le_refl H
  unfold big at hp
  refine does_of _ _ Tryz.func37 rfl rfl Tryz.ntmps37 Tryz.results37 (by simp only [List.length_cons, List.length_nil]; omega) fun w0 g0 Q hret => ?_
  refine tq (cj2 @i64.eq_1 @plD.eq_1) ?_; intro Nx hNx Gx hGx
  intro c2 hc2
  refine hNx _ ?_
  refine frz 2 hc2 ?_
  refine tq @i64.eq_1 ?_; intro Nx hNx Gx hGx
  refine W_loopN p.pr.length (fun i s => s.df = [] ∧ s.fr 1 = i64 0 ∧ s.fr 2 = .rp [i64 p.lo, .seq 2 (p.pr.map pD)] ∧ s.fr 5 = i64 i ∧ s.H = H ∧ (p.pr.any fun x => decide (x.1 = 0)) = ((p.pr.drop i).any fun x => decide (x.1 = 0))) ⟨rfl, rfl, rfl, rfl, rfl, rfl⟩ ?_
  rintro i s hi ⟨hdf, f1, f2, f5, hH, hal⟩
  have hx : (i : Int).toNat = i := Int.toNat_natCast _
  have h00 : (0 : Int) ≤ (i : Int) := Int.natCast_nonneg _
  have hleS : H.le s.H := by rw [hH]; exact Heap.le_refl _
  by_cases hil : i < p.pr.length
  case neg =>
    have q6 : ((i : Int) < (p.pr.length : Int)) = False := eq_false (by omega)
    rw [List.drop_eq_nil_of_le (by omega)] at hal
    refine tq (cj5 f2 f5 @i64.eq_1 q6 hml) ?_; intro Nx hNx Gx hGx
    refine rt hret hdf ?_
    exact ⟨_, Heap.le_refl _, hleS, _, frz_refl hleS, by rw [hres, hal]; rfl⟩
  have q6 : ((i : Int) < (p.pr.length : Int)) = True := eq_true (by omega)
  have q7 : ((i : Int) ≥ 0) = True := eq_true (by omega)
  have w3 : IntKind.i64.wrap ((i : Int) + 1) = ((i + 1 : Nat) : Int) := by rw [wrap_i64_of (by omega)]; omega
  have hgi := get_prs hil
  rw [List.drop_eq_getElem_cons hil, List.any_cons] at hal
  by_cases h0 : p.pr[i].1 = 0
  · have q8 : (p.pr[i].1 = 0) = True := eq_true h0
    rw [decide_eq_true h0, Bool.true_or] at hal
    refine tq (cj12 f1 f2 f5 @i64.eq_1 q6 q7 q8 hml hgi hx h00 hil) ?_; intro Nx hNx Gx hGx
    refine rt hret hdf ?_
    exact ⟨_, Heap.le_refl _, hleS, _, frz_refl hleS, by rw [hres, hal]⟩
  · have q8 : (p.pr[i].1 = 0) = False := eq_false h0
    rw [decide_eq_false h0, Bool.false_or] at hal
    refine tq (cj13 f1 f2 f5 @i64.eq_1 q6 q7 q8 hml hgi hx h00 hil w3) ?_; intro Nx hNx Gx hGx
    exact ⟨hil, hdf, f1, f2, rfl, hH, hal⟩
set_option maxHeartbeats 1000000 in
theorem kcop_N (ts : List TyS) (hw : wfT ts) (htl : ts.length ≤ 1000000) (har : ∀ t ∈ ts, t.ar.length ≤ 140737488351232) :
    ∀ (kk : Nat) (a : Int) (H : Heap), a < kk → Does Tryz.prog 36 [.seq 5 (ts.map tyD), i64 a] H fun d H' => d = .val (.bool (copB ts a)) ∧ H = H' := by
  intro kk
  induction kk using Nat.strongRecOn with
  | ind kk ih =>
    intro a H hak
    refine Does.frz (K := fun d => d = .val (.bool (copB ts a))) ?_
    have htyl : (List.map tyD ts).length = ts.length := List.length_map _
    have hle := Heap.le_refl H
    refine does_of _ _ Tryz.func36 rfl rfl Tryz.ntmps36 Tryz.results36 (by simp only [List.length_cons, List.length_nil]; omega) fun w0 g0 Q hret => ?_
    by_cases h1 : 0 ≤ a
    case neg =>
      have hcb : copB ts a = false := copB_f.2 fun h => h1 h.1.1
      have q1 : (a < 0) = True := eq_true (by omega)
      refine tq (cj3 @i64.eq_1 htyl q1) ?_; intro Nx hNx Gx hGx
      refine rt hret @i64.eq_1 ?_
      exact ⟨_, Heap.le_refl _, hle, _, frz_refl hle, by rw [hcb]⟩
    have q1 : (a < 0) = False := eq_false (by omega)
    by_cases h2 : a < ts.length
    case neg =>
      have hcb : copB ts a = false := copB_f.2 fun h => h2 h.1.2
      have q2 : ((ts.length : Int) ≤ a) = True := eq_true (by omega)
      refine tq (cj4 @i64.eq_1 htyl q1 q2) ?_; intro Nx hNx Gx hGx
      refine rt hret @i64.eq_1 ?_
      exact ⟨_, Heap.le_refl _, hle, _, frz_refl hle, by rw [hcb]⟩
    have q2 : ((ts.length : Int) ≤ a) = False := eq_false (by omega)
    have ha : InR ts.length a := ⟨h1, h2⟩
    have hga := ty_get ha
    have hci := cop_iff hw ha
    have hdn := Dn.F hw a ha
    have hara : (tyAt ts a).ar.length ≤ 140737488351232 := har _ (tyAt_in ha)
    obtain ⟨t, ht⟩ : ∃ t, t = tyAt ts a := ⟨_, rfl⟩
    unfold parF at hdn
    rw [← ht] at hga hdn hara hci
    obtain ⟨tk, tm, tr, te, ta⟩ := t
    simp only [tyD] at hga
    simp only at hara
    have htal : (List.map iD ta).length = ta.length := List.length_map _
    have hal : a.toNat < ts.length := by omega
    have hal' : a < (ts.length : Int) := ha.2
    refine tq (cj4 @i64.eq_1 htyl q1 q2) ?_; intro Nx hNx Gx hGx
    refine W_loopN ta.length (fun j s => s.df = [] ∧ s.fr 0 = .seq 5 (ts.map tyD) ∧ s.fr 1 = i64 a ∧ s.fr 5 = i64 j ∧ s.H = H ∧ ∀ x ∈ ta.take j, copB ts x = true) ⟨rfl, rfl, rfl, rfl, rfl, by simp⟩ ?_
    rintro j s hj ⟨hdf, f0, f1, f5, hH, hall⟩
    have hleS : H.le s.H := by rw [hH]; exact hle
    have hx : (j : Int).toNat = j := Int.toNat_natCast _
    have h00 : (0 : Int) ≤ (j : Int) := Int.natCast_nonneg _
    by_cases hjl : j < ta.length
    case neg =>
      have q6 : ((j : Int) < (ta.length : Int)) = False := eq_false (by omega)
      rw [List.take_of_length_le (by omega)] at hall
      by_cases h3 : tk = 3
      · have q3 : (tk = 3) = True := eq_true h3
        have hcb : copB ts a = !tm := by
          cases tm with
          | true => exact copB_f.2 fun h => (hci.1 h).1 ⟨h3, rfl⟩
          | false => exact copB_t.2 (hci.2 ⟨(fun h => by cases h.2), fun p hp => copB_t.1 (hall p hp)⟩)
        refine tq (cj12 f0 f1 f5 @i64.eq_1 htyl hga h1 hal hal' q6 htal q3) ?_; intro Nx hNx Gx hGx
        refine rt hret hdf ?_
        exact ⟨_, Heap.le_refl _, hleS, _, frz_refl hleS, by rw [hcb]⟩
      · have q3 : (tk = 3) = False := eq_false h3
        have hcb : copB ts a = true := copB_t.2 (hci.2 ⟨fun h => h3 h.1, fun p hp => copB_t.1 (hall p hp)⟩)
        refine tq (cj12 f0 f1 f5 @i64.eq_1 htyl hga h1 hal hal' q6 htal q3) ?_; intro Nx hNx Gx hGx
        refine rt hret hdf ?_
        exact ⟨_, Heap.le_refl _, hleS, _, frz_refl hleS, by rw [hcb]⟩
    have q6 : ((j : Int) < (ta.length : Int)) = True := eq_true (by omega)
    have w3 : IntKind.i64.wrap ((j : Int) + 1) = ((j + 1 : Nat) : Int) := by rw [wrap_i64_of (by omega)]; omega
    have hgj : (ta.map iD)[j]? = some (iD ta[j]) := by rw [List.getElem?_map, List.getElem?_eq_getElem hjl]; rfl
    have hxl : ta[j] ∈ ta := List.getElem_mem hjl
    have hxlt := hdn _ hxl
    refine tq (cj15 f0 f1 f5 @i64.eq_1 htyl hga h1 hal hal' htal q6 hgj hx h00 hjl) ?_; intro Nx hNx Gx hGx
    refine (ih (ta[j] + 1).toNat (by omega) ta[j] _ (by omega)).mono ?_
    rintro d _ ⟨rfl, rfl⟩
    by_cases hb : copB ts ta[j] = true
    · rw [hb]
      refine tq (cj3 f5 @i64.eq_1 w3) ?_; intro Nx hNx Gx hGx
      refine ⟨hjl, hdf, f0, f1, rfl, hH, fun x hx => ?_⟩
      rw [List.take_succ_eq_append_getElem hjl] at hx
      rcases List.mem_append.1 hx with hx | hx
      · exact hall x hx
      · rw [List.mem_singleton] at hx; rw [hx]; exact hb
    · rw [Bool.not_eq_true] at hb
      have hcb : copB ts a = false := copB_f.2 fun h => copB_f.1 hb ((hci.1 h).2 _ hxl)
      rw [hb]
      refine tq @i64.eq_1 ?_; intro Nx hNx Gx hGx
      refine rt hret hdf ?_
      exact ⟨_, Heap.le_refl _, hleS, _, frz_refl hleS, by rw [hcb]⟩
theorem knone_N (p : PlS) (H : Heap) (hp : big p.pr.length) : Does Tryz.prog 34 [.agg (plD p)] H fun d H' => d = .val (.bool (zeroP p)) ∧ H = H' := by
  refine Does.frz (K := fun d => d = .val (.bool (zeroP p))) ?_
  have hle := Heap.le_refl H
  have hml : (List.map pD p.pr).length = p.pr.length := List.length_map _
  obtain ⟨y, hy⟩ : ∃ y, y = zeroP p := ⟨_, rfl⟩
  rw [← hy]
  unfold zeroP at hy
  refine does_of _ _ Tryz.func34 rfl rfl Tryz.ntmps34 Tryz.results34 (by simp only [List.length_cons, List.length_nil]; omega) fun w0 g0 Q hret => ?_
  refine tq (cj2 @i64.eq_1 @plD.eq_1) ?_; intro Nx hNx Gx hGx
  intro c1 hc1
  refine hNx _ ?_
  refine frz 1 hc1 ?_
  by_cases h1 : p.lo = 0
  case neg =>
    have q1 : (p.lo = 0) = False := eq_false h1
    have e : y = false := by rw [hy, decide_eq_false h1, Bool.false_and]
    exact oz hret (cj2 @i64.eq_1 q1) hle e
  have q1 : (p.lo = 0) = True := eq_true h1
  by_cases h2 : p.pr.length = 0
  · have q2 : ((p.pr.length : Int) = 0) = True := eq_true (by omega)
    have e : y = true := by rw [hy, decide_eq_true h1, decide_eq_true h2]; rfl
    exact oz hret (cj4 @i64.eq_1 q1 q2 hml) hle e
  · have q2 : ((p.pr.length : Int) = 0) = False := eq_false (by omega)
    have e : y = false := by rw [hy, decide_eq_false h2, Bool.and_false]
    exact oz hret (cj4 @i64.eq_1 q1 q2 hml) hle e
theorem ktyp_N (b : BdS) (p : PlS) (H : Heap) (ck : Ck b) (hp : big p.pr.length) : Does Tryz.prog 35 [.agg (bdD b), .agg (plD p)] H fun d H' => d = .tup [i64 (toE b p).1, i64 (toE b p).2] ∧ H = H' := by
  refine Does.frz (K := fun d => d = .tup [i64 (toE b p).1, i64 (toE b p).2]) ?_
  have hle := Heap.le_refl H
  have hq := ktypeOf_N b.ty b.lc ck.wt ck.wl ck.ar _ p H rfl hp
  simp only [plD] at hq
  unfold toE
  rw [bdD_eq]
  refine does_of _ _ Tryz.func35 rfl rfl Tryz.ntmps35 Tryz.results35 (by simp only [List.length_cons, List.length_nil]; omega) fun w0 g0 Q hret => ?_
  refine tq (cj2 @i64.eq_1 @plD.eq_1) ?_; intro Nx hNx Gx hGx
  intro c2 hc2 c3 hc3
  refine hNx _ ?_
  obtain ⟨nFz, hFz⟩ := Heap.upd_none.1 hc3; refine W_frzp 2 rfl ((Heap.upd_ne nFz.symm).trans (Heap.upd_same _ _ _)) rfl ?_; refine W_frzp 3 rfl ((Heap.del_ne nFz).trans (Heap.upd_same _ _ _)) rfl ?_; refine W_less _ (le_two hc2 hFz) ?_; simp only [St.frzp, List.drop]
  refine tq @i64.eq_1 ?_; intro Nx hNx Gx hGx
  refine hq.mono ?_
  rintro d _ ⟨rfl, rfl⟩
  refine tq @i64.eq_1 ?_; intro Nx hNx Gx hGx
  refine rt hret @i64.eq_1 ?_
  exact ⟨_, Heap.le_refl _, hle, _, frz_refl hle, rfl⟩
theorem kmuta_N (b : BdS) (p : PlS) (H : Heap) (ck : Ck b) (hp : big p.pr.length) : Does Tryz.prog 39 [.agg (bdD b), .agg (plD p)] H fun d H' => d = .val (.bool (mutP b.ty b.lc p)) ∧ H = H' := by
  refine Does.frz (K := fun d => d = .val (.bool (mutP b.ty b.lc p))) ?_
  have hle := Heap.le_refl H
  have hq := kmut_N b.ty b.lc p H ck.wt ck.wl ck.ar hp
  simp only [plD] at hq
  rw [bdD_eq]
  refine does_of _ _ Tryz.func39 rfl rfl Tryz.ntmps39 Tryz.results39 (by simp only [List.length_cons, List.length_nil]; omega) fun w0 g0 Q hret => ?_
  refine tq (cj2 @i64.eq_1 @plD.eq_1) ?_; intro Nx hNx Gx hGx
  intro c2 hc2 c3 hc3
  refine hNx _ ?_
  obtain ⟨nFz, hFz⟩ := Heap.upd_none.1 hc3; refine W_frzp 2 rfl ((Heap.upd_ne nFz.symm).trans (Heap.upd_same _ _ _)) rfl ?_; refine W_frzp 3 rfl ((Heap.del_ne nFz).trans (Heap.upd_same _ _ _)) rfl ?_; refine W_less _ (le_two hc2 hFz) ?_; simp only [St.frzp, List.drop]
  refine tq @i64.eq_1 ?_; intro Nx hNx Gx hGx
  refine hq.mono ?_
  rintro d _ ⟨rfl, rfl⟩
  refine tq @i64.eq_1 ?_; intro Nx hNx Gx hGx
  refine rt hret @i64.eq_1 ?_
  exact ⟨_, Heap.le_refl _, hle, _, frz_refl hle, rfl⟩
set_option maxHeartbeats 2000000 in
theorem koperand_N (b : BdS) (o : OpS) (H : Heap) (ck : Ck b) (hp : okOp o) : Does Tryz.prog 15 [.agg (bdD b), .agg (opD o)] H fun d H' => d = i64 (opE b o) ∧ H = H' := by
  refine Does.frz (K := fun d => d = i64 (opE b o)) ?_
  have hle := Heap.le_refl H
  have hty := ktyp_N b o.pl H ck hp
  have hze := knone_N o.pl H hp
  have hdr := khasDr_N o.pl H hp
  have hcp : (toE b o.pl).2 = 0 → Does Tryz.prog 36 [.seq 5 (b.ty.map tyD), i64 (toE b o.pl).1] H fun d H' => d = .val (.bool (copB b.ty (toE b o.pl).1)) ∧ H = H' := fun h => by
    have := toE_in ck h
    exact kcop_N b.ty ck.wt ck.tl ck.ar.big b.ty.length _ H this.2
  obtain ⟨y, hy⟩ : ∃ y, y = opE b o := ⟨_, rfl⟩
  rw [← hy]
  unfold opE at hy
  obtain ⟨T, hT⟩ : ∃ T, T = toE b o.pl := ⟨_, rfl⟩
  rw [← hT] at hy hty hcp
  clear hT
  obtain ⟨k, p, v⟩ := o
  simp only at hy hcp
  simp only [plD] at hze hdr hty
  rw [bdD_eq] at hty ⊢
  refine does_of _ _ Tryz.func15 rfl rfl Tryz.ntmps15 Tryz.results15 (by simp only [List.length_cons, List.length_nil]; omega) fun w0 g0 Q hret => ?_
  refine tq (cj2 @i64.eq_1 @opD.eq_1) ?_; intro Nx hNx Gx hGx
  intro c2 hc2 c3 hc3
  refine hNx _ ?_
  obtain ⟨nFz, hFz⟩ := Heap.upd_none.1 hc3; refine W_frzp 2 rfl ((Heap.upd_ne nFz.symm).trans (Heap.upd_same _ _ _)) rfl ?_; refine W_frzp 3 rfl ((Heap.del_ne nFz).trans (Heap.upd_same _ _ _)) rfl ?_; refine W_less _ (le_two hc2 hFz) ?_; simp only [St.frzp, List.drop]
  by_cases hk : k < 0
  · have q1 : (k < 0) = True := eq_true hk
    have e : y = 14 := hy.trans (if_pos (.inl hk))
    exact oz hret (cj2 @i64.eq_1 q1) hle e
  have q1 : (k < 0) = False := eq_false hk
  by_cases hk4 : 4 < k
  · have q2 : (4 < k) = True := eq_true hk4
    have e : y = 14 := hy.trans (if_pos (.inr hk4))
    exact oz hret (cj3 @i64.eq_1 q1 q2) hle e
  have q2 : (4 < k) = False := eq_false hk4
  rw [if_neg (by omega)] at hy
  by_cases hv : v = 0
  case neg =>
    have v0 : (v = 0) = False := eq_false hv
    by_cases h2 : k = 2
    · have k1 : (1 < k) = True := eq_true (by omega)
      have k2 : (k = 2) = True := eq_true h2
      have k3 : (k = 3) = False := eq_false (by omega)
      refine tq (cj6 @i64.eq_1 q1 q2 v0 k2 k1) ?_; intro Nx hNx Gx hGx
      refine hze.mono ?_
      rintro d _ ⟨rfl, rfl⟩
      cases hz : zeroP p
      · have e : y = 2 := hy.trans (if_pos (.inr ⟨by omega, hz⟩))
        exact oz hret (cj2 @i64.eq_1 q1) hle e
      · have e : y = 0 := hy.trans (by rw [if_neg (by rw [hz]; rintro (⟨_, h, _⟩ | ⟨_, h⟩); exact h h2; cases h), if_neg (by omega), if_pos (by omega)])
        exact oz hret (cj3 @i64.eq_1 k1 k3) hle e
    have k2 : (k = 2) = False := eq_false h2
    by_cases h3 : k = 3
    · have k1 : (1 < k) = True := eq_true (by omega)
      have k3 : (k = 3) = True := eq_true h3
      refine tq (cj7 @i64.eq_1 q1 q2 v0 k2 k3 k1) ?_; intro Nx hNx Gx hGx
      refine hze.mono ?_
      rintro d _ ⟨rfl, rfl⟩
      cases hz : zeroP p
      · have e : y = 2 := hy.trans (if_pos (.inr ⟨by omega, hz⟩))
        exact oz hret (cj2 @i64.eq_1 q1) hle e
      rw [if_neg (by rw [hz]; rintro (⟨_, _, h⟩ | ⟨_, h⟩); exact h h3; cases h)] at hy
      by_cases h1 : v = 1
      · have v1 : (v = 1) = True := eq_true h1
        have e : y = 0 := hy.trans (by rw [if_neg (by omega), if_pos (by omega)])
        exact oz hret (cj5 @i64.eq_1 k1 k3 v0 v1) hle e
      · have v1 : (v = 1) = False := eq_false h1
        have e : y = 3 := hy.trans (if_pos ⟨h3, hv, h1⟩)
        exact oz hret (cj5 @i64.eq_1 k1 k3 v0 v1) hle e
    have k3 : (k = 3) = False := eq_false h3
    have e : y = 2 := hy.trans (if_pos (.inl ⟨hv, h2, h3⟩))
    exact oz hret (cj6 @i64.eq_1 q1 q2 v0 k2 k3) hle e
  have v0 : (v = 0) = True := eq_true hv
  by_cases h1 : 1 < k
  · have k1 : (1 < k) = True := eq_true h1
    refine tq (cj5 @i64.eq_1 q1 q2 v0 k1) ?_; intro Nx hNx Gx hGx
    refine hze.mono ?_
    rintro d _ ⟨rfl, rfl⟩
    cases hz : zeroP p
    · have e : y = 2 := hy.trans (if_pos (.inr ⟨by omega, hz⟩))
      exact oz hret (cj2 @i64.eq_1 q1) hle e
    have e : y = 0 := hy.trans (by rw [if_neg (by rw [hz]; rintro (⟨h, _⟩ | ⟨_, h⟩); exact h hv; cases h), if_neg (by omega), if_pos (by omega)])
    by_cases h3 : k = 3
    · have k3 : (k = 3) = True := eq_true h3
      exact oz hret (cj4 @i64.eq_1 k1 k3 v0) hle e
    · have k3 : (k = 3) = False := eq_false h3
      exact oz hret (cj4 @i64.eq_1 k1 k3 v0) hle e
  have k1 : (1 < k) = False := eq_false h1
  have k3 : (k = 3) = False := eq_false (by omega)
  rw [if_neg (by omega), if_neg (by omega), if_neg (by omega)] at hy
  refine tq (cj6 @i64.eq_1 q1 q2 v0 k1 k3) ?_; intro Nx hNx Gx hGx
  refine hty.mono ?_
  rintro d _ ⟨rfl, rfl⟩
  by_cases h2 : T.2 = 0
  case neg =>
    have q3 : (T.2 = 0) = False := eq_false h2
    have e : y = T.2 := hy.trans (if_pos h2)
    exact oz hret (cj2 @i64.eq_1 q3) hle e
  have q3 : (T.2 = 0) = True := eq_true h2
  rw [if_neg (fun h => h h2)] at hy
  by_cases hk0 : k = 0
  · have k0 : (k = 0) = True := eq_true hk0
    have k01 : (k = 1) = False := eq_false (by omega)
    refine tq (cj3 @i64.eq_1 q3 k0) ?_; intro Nx hNx Gx hGx
    refine (hcp h2).mono ?_
    rintro d _ ⟨rfl, rfl⟩
    cases hc : copB b.ty T.1
    · have e : y = 22 := hy.trans (if_pos (.inl ⟨hk0, hc⟩))
      exact oz hret (cj3 @i64.eq_1 k0 k01) hle e
    · have e : y = 0 := hy.trans (if_neg (by rw [hc]; rintro (⟨_, h⟩ | ⟨h, _⟩); cases h; omega))
      exact oz hret (cj3 @i64.eq_1 k0 k01) hle e
  · have k0 : (k = 0) = False := eq_false hk0
    have k01 : (k = 1) = True := eq_true (by omega)
    refine tq (cj4 @i64.eq_1 q3 k0 k01) ?_; intro Nx hNx Gx hGx
    refine hdr.mono ?_
    rintro d _ ⟨rfl, rfl⟩
    cases hc : hasDr p 0
    · have e : y = 0 := hy.trans (if_neg (by rw [hc]; rintro (⟨h, _⟩ | ⟨_, h⟩); omega; cases h))
      exact oz hret (cj3 @i64.eq_1 k0 k01) hle e
    · have e : y = 22 := hy.trans (if_pos (.inr ⟨by omega, hc⟩))
      exact oz hret (cj3 @i64.eq_1 k0 k01) hle e
set_option maxHeartbeats 1000000 in
theorem kfitsK_N (b : BdS) (o : OpS) (kd : Int) (H : Heap) (ck : Ck b) (hp : okOp o) (hz : opE b o = 0) : Does Tryz.prog 42 [.agg (bdD b), .agg (opD o), i64 kd] H fun d H' => d = .val (.bool (decide (kdE b o = kd))) ∧ H = H' := by
  refine Does.frz (K := fun d => d = .val (.bool (decide (kdE b o = kd)))) ?_
  have hle := Heap.le_refl H
  have hty := ktyp_N b o.pl H ck hp
  obtain ⟨hk5, hk1⟩ := opE_ok hz
  obtain ⟨y, hy⟩ : ∃ y, y = decide (kdE b o = kd) := ⟨_, rfl⟩
  rw [← hy]
  unfold kdE at hy
  have hin : o.k ≤ 1 → InR b.ty.length (toE b o.pl).1 := fun h => toE_in ck (hk1 h)
  obtain ⟨T, hT⟩ : ∃ T, T = toE b o.pl := ⟨_, rfl⟩
  rw [← hT] at hy hty hin
  have hmt : (List.map tyD b.ty).length = b.ty.length := List.length_map _
  obtain ⟨k, p, v⟩ := o
  simp only at hy hk5 hin
  clear hT hk1 hz
  simp only [plD] at hty
  rw [bdD_eq] at hty ⊢
  refine does_of _ _ Tryz.func42 rfl rfl Tryz.ntmps42 Tryz.results42 (by simp only [List.length_cons, List.length_nil]; omega) fun w0 g0 Q hret => ?_
  refine tq (cj2 @i64.eq_1 @opD.eq_1) ?_; intro Nx hNx Gx hGx
  intro c3 hc3 c4 hc4
  refine hNx _ ?_
  obtain ⟨nFz, hFz⟩ := Heap.upd_none.1 hc4; refine W_frzp 3 rfl ((Heap.upd_ne nFz.symm).trans (Heap.upd_same _ _ _)) rfl ?_; refine W_frzp 4 rfl ((Heap.del_ne nFz).trans (Heap.upd_same _ _ _)) rfl ?_; refine W_less _ (le_two hc3 hFz) ?_; simp only [St.frzp, List.drop]
  by_cases hk : 1 < k
  · have k1 : (1 < k) = True := eq_true hk
    have fin : ∀ z : Int, (if k = 2 then (2 : Int) else if k = 3 then 1 else if k = 4 then 0 else (tyAt b.ty T.1).k) = z → y = decide (kd = z) := fun z h => by
      rw [hy, h]
      by_cases hz : z = kd
      · subst hz; rfl
      · rw [decide_eq_false hz, decide_eq_false (fun h => hz h.symm)]
    by_cases h2 : k = 2
    · have k2 : (k = 2) = True := eq_true h2
      have k3 : (k = 3) = False := eq_false (by omega)
      have k4 : (k = 4) = False := eq_false (by omega)
      have e := fin 2 (if_pos h2)
      by_cases hd : kd = 2
      · have d2 : (kd = 2) = True := eq_true hd
        rw [decide_eq_true hd] at e
        exact oz hret (cj6 @i64.eq_1 k1 k2 k3 k4 d2) hle e
      · have d2 : (kd = 2) = False := eq_false hd
        rw [decide_eq_false hd] at e
        exact oz hret (cj6 @i64.eq_1 k1 k2 k3 k4 d2) hle e
    have k2 : (k = 2) = False := eq_false h2
    by_cases h3 : k = 3
    · have k3 : (k = 3) = True := eq_true h3
      have k4 : (k = 4) = False := eq_false (by omega)
      have e := fin 1 (by rw [if_neg h2, if_pos h3])
      by_cases hd : kd = 1
      · have d2 : (kd = 1) = True := eq_true hd
        rw [decide_eq_true hd] at e
        exact oz hret (cj6 @i64.eq_1 k1 k2 k3 k4 d2) hle e
      · have d2 : (kd = 1) = False := eq_false hd
        rw [decide_eq_false hd] at e
        exact oz hret (cj6 @i64.eq_1 k1 k2 k3 k4 d2) hle e
    have k3 : (k = 3) = False := eq_false h3
    have k4 : (k = 4) = True := eq_true (by omega)
    have e := fin 0 (by rw [if_neg h2, if_neg h3, if_pos (by omega)])
    by_cases hd : kd = 0
    · have d2 : (kd = 0) = True := eq_true hd
      rw [decide_eq_true hd] at e
      exact oz hret (cj6 @i64.eq_1 k1 k2 k3 k4 d2) hle e
    · have d2 : (kd = 0) = False := eq_false hd
      rw [decide_eq_false hd] at e
      exact oz hret (cj6 @i64.eq_1 k1 k2 k3 k4 d2) hle e
  have k1 : (1 < k) = False := eq_false hk
  rw [if_neg (by omega), if_neg (by omega), if_neg (by omega)] at hy
  have hin := hin (by omega)
  have hgt := ty_get hin
  have hti : T.1.toNat < b.ty.length := by unfold InR at hin; omega
  have ht0 : 0 ≤ T.1 := by unfold InR at hin; omega
  obtain ⟨t, ht⟩ : ∃ t, t = tyAt b.ty T.1 := ⟨_, rfl⟩
  rw [← ht] at hgt hy
  simp only [tyD] at hgt
  refine tq (cj2 @i64.eq_1 k1) ?_; intro Nx hNx Gx hGx
  refine hty.mono ?_
  rintro d _ ⟨rfl, rfl⟩
  have e := hy
  by_cases hd : t.k = kd
  · have d2 : (t.k = kd) = True := eq_true hd
    rw [decide_eq_true hd] at e
    exact oz hret (cj6 @i64.eq_1 hgt hti ht0 hmt d2) hle e
  · have d2 : (t.k = kd) = False := eq_false hd
    rw [decide_eq_false hd] at e
    exact oz hret (cj6 @i64.eq_1 hgt hti ht0 hmt d2) hle e
end Go.Proofs.YtgfhgeelfaalmaaGreatDoor
namespace Go.Proofs.YtgfhgeelfaalmaaGreatDoor
open Go.RowKit
set_option maxRecDepth 100000
set_option linter.unusedVariables false
set_option linter.unusedSimpArgs false
def A1 (b : BdS) (k op rg : Int) (mu : Bool) (pl : PlS) (ar : List OpS) (t kd : Int) (H : Heap) (s : St) : Prop := s.df = [] ∧ s.fr 2 = i64 t ∧ s.fr 3 = .rp [strD b.nm, .seq 1 (b.rg.map sD), .seq 2 (b.ol.map pD), .seq 5 (b.ty.map tyD), .seq 2 (b.lc.map lcD), i64 b.ag, .seq 7 (b.bl.map bkD)] ∧ s.fr 4 = .rp [i64 k, i64 op, i64 rg, .val (.bool mu), i64 pl.lo, .seq 2 (pl.pr.map pD), .seq 4 (ar.map opD)] ∧ s.fr 8 = i64 kd ∧ s.H = H
end Go.Proofs.YtgfhgeelfaalmaaGreatDoor
namespace Go.Proofs.YtgfhgeelfaalmaaGreatDoor
open Go.RowKit
set_option maxRecDepth 100000
set_option linter.unusedVariables false
set_option maxRecDepth 100000
set_option linter.unusedSimpArgs false
def T1 (b : BdS) (k : Int) (tg : List Int) (ar : List OpS) (pl : PlS) (nm : ByteArray) (H : Heap) (s : St) : Prop := s.df = [] ∧ s.fr 2 = .rp [strD b.nm, .seq 1 (b.rg.map sD), .seq 2 (b.ol.map pD), .seq 5 (b.ty.map tyD), .seq 2 (b.lc.map lcD), i64 b.ag, .seq 7 (b.bl.map bkD)] ∧ s.fr 3 = .rp [i64 k, .seq 1 (tg.map iD), .seq 4 (ar.map opD), i64 pl.lo, .seq 2 (pl.pr.map pD), strD nm] ∧ s.fr 6 = .val (.bool (decide (k = 3))) ∧ s.H = H
noncomputable def tmR (b : BdS) (k : Int) (tg : List Int) (ar : List OpS) (pl : PlS) (nm : ByteArray) (o : OpS) : Int :=
  if (tg.all fun x => decide (InR b.bl.length x)) = false then 3
  else if k = 1 then (if opE b o ≠ 0 then opE b o else if kdE b o ≠ 1 then 22 else 0)
  else if k = 3 then (if isId nm = false then 12 else if 65535 < ar.length then 15 else if opsE b ar [] ≠ 0 then opsE b ar [] else wrtE b pl)
  else if k = 4 then (if (toE b pl).2 ≠ 0 then (toE b pl).2 else if hasDr pl 0 = true then 22 else 0)
  else 0
theorem fld_ar0 {t : TmS} (h : fldE t = true) (h1 : t.k ≠ 1) (h3 : t.k ≠ 3) : t.ar.length = 0 := by
  unfold fldE at h
  by_cases h0 : t.k = 0
  · rw [if_pos h0] at h
    simp only [Bool.and_eq_true, decide_eq_true_eq] at h
    exact h.1.1.2
  rw [if_neg h0, if_neg h1, if_neg h3] at h
  by_cases h4 : t.k = 4
  · rw [if_pos h4] at h
    simp only [Bool.and_eq_true, decide_eq_true_eq] at h
    exact h.1.2
  · rw [if_neg h4] at h
    simp only [Bool.and_eq_true, decide_eq_true_eq] at h
    exact h.1.1.2
set_option maxHeartbeats 4000000 in
theorem kterm_N (b : BdS) (t : TmS) (H : Heap) (ck : Ck b) (hp : okTm t) (hnm : big t.nm.size) : Does Tryz.prog 20 [.agg (bdD b), .agg (tmD t)] H fun d H' => d = i64 (tmE b t) ∧ H = H' := by
  refine Does.frz (K := fun d => d = i64 (tmE b t)) ?_
  have hle := Heap.le_refl H
  have hop : ∀ o ∈ t.ar, ∀ H1, CallOK Tryz.prog 15 [.agg (bdD b), .agg (opD o)] H1 fun d A => A = Heap.none ∧ d = i64 (opE b o) := fun o ho H1 => callOK_eq fun H'' hle'' => koperand_N b o H'' ck (hp.2.1.2 o ho)
  have hfk : ∀ o ∈ t.ar, opE b o = 0 → ∀ H1, CallOK Tryz.prog 42 [.agg (bdD b), .agg (opD o), i64 1] H1 fun d A => A = Heap.none ∧ d = .val (.bool (decide (kdE b o = 1))) := fun o ho hz H1 => callOK_eq fun H'' hle'' => kfitsK_N b o 1 H'' ck (hp.2.1.2 o ho) hz
  have hno : ∀ H1, CallOK Tryz.prog 34 [.agg (plD t.pl)] H1 fun d A => A = Heap.none ∧ d = .val (.bool (zeroP t.pl)) := fun H1 => callOK_eq fun H'' hle'' => knone_N t.pl H'' hp.2.2
  have hid := kisid_N t.nm H hnm
  have hty := ktyp_N b t.pl H ck hp.2.2
  have hmu := kmuta_N b t.pl H ck hp.2.2
  have hdr := khasDr_N t.pl H hp.2.2
  have hmt : (List.map iD t.tg).length = t.tg.length := List.length_map _
  have hma : (List.map opD t.ar).length = t.ar.length := List.length_map _
  have hmb : (List.map bkD b.bl).length = b.bl.length := List.length_map _
  have htl := hp.1
  have hal := hp.2.1.1
  have hbl := ck.bll
  unfold big at htl hal hbl
  have hf1 : fldE t = true → t.k = 1 → t.ar.length = 1 := fld_ar
  have hf0 : fldE t = true → t.k ≠ 1 → t.k ≠ 3 → t.ar.length = 0 := fld_ar0
  obtain ⟨y, hy⟩ : ∃ y, y = tmE b t := ⟨_, rfl⟩
  rw [← hy]
  have hy2 : y = if t.k < 0 ∨ 5 < t.k then 14 else if fldE t = false then 2 else tmR b t.k t.tg t.ar t.pl t.nm (op0 t) := hy
  clear hy
  have ho0 : t.ar.length = 1 → [op0 t] = t.ar := fun h => by
    obtain ⟨o, ho⟩ := List.length_eq_one_iff.1 h
    unfold op0; rw [ho]; rfl
  obtain ⟨O, hO⟩ : ∃ O, O = op0 t := ⟨_, rfl⟩
  rw [← hO] at hy2 ho0
  clear hO
  rw [bdD_eq] at hop hfk hty hmu ⊢
  have hfl := fldE_eq t
  unfold cntE at hfl
  obtain ⟨F, hF⟩ : ∃ F, F = fldE t := ⟨_, rfl⟩
  rw [← hF] at hfl hy2 hf1 hf0
  clear hF hp
  obtain ⟨Z, hZ⟩ : ∃ Z, Z = zeroP t.pl := ⟨_, rfl⟩
  rw [← hZ] at hno hfl
  clear hZ
  obtain ⟨k, tg, ar, pl, nm⟩ := t
  simp only at hy2 hmt hma htl hal hf1 hf0 hop hfk ho0 hfl hid
  simp only [plD] at hty hmu hdr hno
  simp only [opD] at hop hfk
  simp only [tmD]
  obtain ⟨R, hR⟩ : ∃ R, R = tmR b k tg ar pl nm O := ⟨_, rfl⟩
  rw [← hR] at hy2
  refine does_of _ _ Tryz.func20 rfl rfl Tryz.ntmps20 Tryz.results20 (by simp only [List.length_cons, List.length_nil]; omega) fun w0 g0 Q hret => ?_
  refine tq @i64.eq_1 ?_; intro Nx hNx Gx hGx
  intro c2 hc2 c3 hc3
  refine hNx _ ?_
  obtain ⟨nFz, hFz⟩ := Heap.upd_none.1 hc3; refine W_frzp 2 rfl ((Heap.upd_ne nFz.symm).trans (Heap.upd_same _ _ _)) rfl ?_; refine W_frzp 3 rfl ((Heap.del_ne nFz).trans (Heap.upd_same _ _ _)) rfl ?_; refine W_less _ (le_two hc2 hFz) ?_; simp only [St.frzp, List.drop]
  by_cases h1 : k < 0
  · have q1 : (k < 0) = True := eq_true h1
    have e : y = 14 := hy2.trans (if_pos (.inl h1))
    exact oz hret (cj2 @i64.eq_1 q1) hle e
  have q1 : (k < 0) = False := eq_false h1
  by_cases h2 : 5 < k
  · have q2 : (5 < k) = True := eq_true h2
    have e : y = 14 := hy2.trans (if_pos (.inr h2))
    exact oz hret (cj3 @i64.eq_1 q1 q2) hle e
  have q2 : (5 < k) = False := eq_false h2
  rw [if_neg (by omega)] at hy2
  refine tq (cj3 @i64.eq_1 q1 q2) ?_; intro Nx hNx Gx hGx
  intro c5 hc5
  refine hNx _ ?_
  refine frz 5 hc5 ?_
  (have fs := @i64.eq_1; (iterate 3 (first | refine hGx _ ?_ | refine hNx _ ?_ | refine W_skip ?_ | refine W_exit ?_ | refine W_ret ?_ | refine W_label ?_ | refine W_scope ?_ | refine W_block ?_ | refine W_seq ?_ | ((first | refine tS fun Nx hNx => ?_ | refine WL_gE rfl rfl (by kernel_rfl) (by kernel_rfl) fun Gx hGx => ?_ | refine vcOpsS_sound (by kernel_rfl) ?_ | refine W_ifE fun A B hAx hBx => ?_); refine evT ?_; (first | refine hGx _ ?_ | refine hNx _ ?_ | refine hAx ?_ | refine hBx ?_ | skip)))); (try clear fs))
  refine W_toR (fun s => T1 b k tg ar pl nm H s ∧ F = true) ?_ ?_
  · have hk : k = 0 ∨ k = 1 ∨ k = 2 ∨ k = 3 ∨ k = 4 ∨ k = 5 := by omega
    rcases hk with hk | hk | hk | hk | hk | hk
    ·
      by_cases ht : (tg.length : Int) = 1
      case neg =>
        have q3 : ((tg.length : Int) = 1) = False := eq_false ht
        have hff : F = false := by rw [hfl, if_pos hk, decide_eq_false ht]; try rfl
        have e : y = 2 := by rw [hy2, hff, if_pos rfl]
        refine W_seq ?_
        refine W_drawE (fun _ _ _ _ => False) (by kernel_rfl) (by kernel_rfl) (by kernel_rfl) fun Nx hNx => ?_; refine dst (cj4 @i64.eq_1 hk hmt q3) ?_; intro Nx hNx Gx hGx
        refine tq @i64.eq_1 ?_; intro Nx hNx Gx hGx
        refine ⟨by simp, ?_⟩
        refine rt hret @i64.eq_1 ?_; exact ⟨_, Heap.le_refl _, hle, _, frz_refl hle, by rw [e]⟩
      have q3 : ((tg.length : Int) = 1) = True := eq_true ht
      rw [if_pos hk, decide_eq_true ht] at hfl
      by_cases hn : nm = ByteArray.empty
      case neg =>
        have qn : (nm.toList = (ByteArray.mk #[]).toList) = False := eq_false (fun h => hn (toL_inj.1 h))
        have hff : F = false := by rw [hfl, decide_eq_false hn, Bool.and_false]
        have e : y = 2 := by rw [hy2, hff, if_pos rfl]
        refine W_seq ?_
        refine W_drawE (fun _ _ _ _ => False) (by kernel_rfl) (by kernel_rfl) (by kernel_rfl) fun Nx hNx => ?_; refine dst (cj6 @i64.eq_1 hk hmt q3 @strD.eq_1 qn) ?_; intro Nx hNx Gx hGx
        refine tq @i64.eq_1 ?_; intro Nx hNx Gx hGx
        refine ⟨by simp, ?_⟩
        refine rt hret @i64.eq_1 ?_; exact ⟨_, Heap.le_refl _, hle, _, frz_refl hle, by rw [e]⟩
      have qn : (nm.toList = (ByteArray.mk #[]).toList) = True := eq_true (toL_inj.2 hn)
      rw [decide_eq_true hn, Bool.and_true] at hfl
      cases Z
      case false =>
        have hff : F = false := by rw [hfl, Bool.and_false]
        have e : y = 2 := by rw [hy2, hff, if_pos rfl]
        refine W_seq ?_
        refine W_drawE (fun _ _ d A => A = .none ∧ d = .val (.bool false)) (by kernel_rfl) (by kernel_rfl) (by kernel_rfl) fun Nx hNx => ?_; refine dst (cj7 @i64.eq_1 hk hmt q3 @strD.eq_1 qn hma) ?_; intro Nx hNx Gx hGx
        refine ⟨hno _, ?_⟩
        (first | refine hGx _ ?_ | skip)
        (first | refine dst (cj7 @i64.eq_1 hk hmt q3 @strD.eq_1 qn hma) ?_; intro Nx hNx Gx hGx | skip)
        refine tq @i64.eq_1 ?_; intro Nx hNx Gx hGx
        refine ⟨by simp, ?_⟩
        refine rt hret @i64.eq_1 ?_; exact ⟨_, Heap.le_refl _, hle, _, frz_refl hle, by rw [e]⟩
      rw [Bool.and_true] at hfl
      by_cases ha : (ar.length : Int) = 0
      case neg =>
        have qa : ((0 : Int) < (ar.length : Int)) = True := eq_true (by omega)
        have hff : F = false := by rw [hfl, decide_eq_false ha]; rfl
        have e : y = 2 := by rw [hy2, hff, if_pos rfl]
        refine W_seq ?_
        refine W_drawE (fun _ _ d A => A = .none ∧ d = .val (.bool true)) (by kernel_rfl) (by kernel_rfl) (by kernel_rfl) fun Nx hNx => ?_; refine dst (cj8 @i64.eq_1 hk hmt q3 @strD.eq_1 qn hma qa) ?_; intro Nx hNx Gx hGx
        refine ⟨hno _, ?_⟩
        (first | refine hGx _ ?_ | skip)
        (first | refine dst (cj8 @i64.eq_1 hk hmt q3 @strD.eq_1 qn hma qa) ?_; intro Nx hNx Gx hGx | skip)
        refine tq @i64.eq_1 ?_; intro Nx hNx Gx hGx
        refine ⟨by simp, ?_⟩
        refine rt hret @i64.eq_1 ?_; exact ⟨_, Heap.le_refl _, hle, _, frz_refl hle, by rw [e]⟩
      have qa : ((0 : Int) < (ar.length : Int)) = False := eq_false (by omega)
      refine W_seq ?_
      refine W_drawE (fun _ _ d A => A = .none ∧ d = .val (.bool true)) (by kernel_rfl) (by kernel_rfl) (by kernel_rfl) fun Nx hNx => ?_; refine dst (cj8 @i64.eq_1 hk hmt q3 @strD.eq_1 qn hma qa) ?_; intro Nx hNx Gx hGx
      refine ⟨hno _, ?_⟩
      (first | refine hGx _ ?_ | skip)
      (first | refine dst (cj8 @i64.eq_1 hk hmt q3 @strD.eq_1 qn hma qa) ?_; intro Nx hNx Gx hGx | skip)
      refine tq @i64.eq_1 ?_; intro Nx hNx Gx hGx
      exact ⟨⟨rfl, rfl, by subst hk; rfl, by subst hk; rfl, rfl⟩, by rw [hfl, decide_eq_true ha]; try rfl⟩
    ·
      by_cases ht : (tg.length : Int) = 2
      case neg =>
        have q3 : ((tg.length : Int) = 2) = False := eq_false ht
        have hff : F = false := by rw [hfl, if_neg (by omega), if_pos hk, decide_eq_false ht]; try rfl
        have e : y = 2 := by rw [hy2, hff, if_pos rfl]
        refine W_seq ?_
        refine W_drawE (fun _ _ _ _ => False) (by kernel_rfl) (by kernel_rfl) (by kernel_rfl) fun Nx hNx => ?_; refine dst (cj4 @i64.eq_1 hk hmt q3) ?_; intro Nx hNx Gx hGx
        refine tq @i64.eq_1 ?_; intro Nx hNx Gx hGx
        refine ⟨by simp, ?_⟩
        refine rt hret @i64.eq_1 ?_; exact ⟨_, Heap.le_refl _, hle, _, frz_refl hle, by rw [e]⟩
      have q3 : ((tg.length : Int) = 2) = True := eq_true ht
      rw [if_neg (by omega), if_pos hk, decide_eq_true ht] at hfl
      by_cases hn : nm = ByteArray.empty
      case neg =>
        have qn : (nm.toList = (ByteArray.mk #[]).toList) = False := eq_false (fun h => hn (toL_inj.1 h))
        have hff : F = false := by rw [hfl, decide_eq_false hn, Bool.and_false]
        have e : y = 2 := by rw [hy2, hff, if_pos rfl]
        refine W_seq ?_
        refine W_drawE (fun _ _ _ _ => False) (by kernel_rfl) (by kernel_rfl) (by kernel_rfl) fun Nx hNx => ?_; refine dst (cj6 @i64.eq_1 hk hmt q3 @strD.eq_1 qn) ?_; intro Nx hNx Gx hGx
        refine tq @i64.eq_1 ?_; intro Nx hNx Gx hGx
        refine ⟨by simp, ?_⟩
        refine rt hret @i64.eq_1 ?_; exact ⟨_, Heap.le_refl _, hle, _, frz_refl hle, by rw [e]⟩
      have qn : (nm.toList = (ByteArray.mk #[]).toList) = True := eq_true (toL_inj.2 hn)
      rw [decide_eq_true hn, Bool.and_true] at hfl
      cases Z
      case false =>
        have hff : F = false := by rw [hfl, Bool.and_false]
        have e : y = 2 := by rw [hy2, hff, if_pos rfl]
        refine W_seq ?_
        refine W_drawE (fun _ _ d A => A = .none ∧ d = .val (.bool false)) (by kernel_rfl) (by kernel_rfl) (by kernel_rfl) fun Nx hNx => ?_; refine dst (cj7 @i64.eq_1 hk hmt q3 @strD.eq_1 qn hma) ?_; intro Nx hNx Gx hGx
        refine ⟨hno _, ?_⟩
        (first | refine hGx _ ?_ | skip)
        (first | refine dst (cj7 @i64.eq_1 hk hmt q3 @strD.eq_1 qn hma) ?_; intro Nx hNx Gx hGx | skip)
        refine tq @i64.eq_1 ?_; intro Nx hNx Gx hGx
        refine ⟨by simp, ?_⟩
        refine rt hret @i64.eq_1 ?_; exact ⟨_, Heap.le_refl _, hle, _, frz_refl hle, by rw [e]⟩
      rw [Bool.and_true] at hfl
      by_cases ha : (ar.length : Int) = 1
      case neg =>
        have qa : ((ar.length : Int) = 1) = False := eq_false (by omega)
        have hff : F = false := by rw [hfl, decide_eq_false ha]; rfl
        have e : y = 2 := by rw [hy2, hff, if_pos rfl]
        refine W_seq ?_
        refine W_drawE (fun _ _ d A => A = .none ∧ d = .val (.bool true)) (by kernel_rfl) (by kernel_rfl) (by kernel_rfl) fun Nx hNx => ?_; refine dst (cj8 @i64.eq_1 hk hmt q3 @strD.eq_1 qn hma qa) ?_; intro Nx hNx Gx hGx
        refine ⟨hno _, ?_⟩
        (first | refine hGx _ ?_ | skip)
        (first | refine dst (cj8 @i64.eq_1 hk hmt q3 @strD.eq_1 qn hma qa) ?_; intro Nx hNx Gx hGx | skip)
        refine tq @i64.eq_1 ?_; intro Nx hNx Gx hGx
        refine ⟨by simp, ?_⟩
        refine rt hret @i64.eq_1 ?_; exact ⟨_, Heap.le_refl _, hle, _, frz_refl hle, by rw [e]⟩
      have qa : ((ar.length : Int) = 1) = True := eq_true (by omega)
      refine W_seq ?_
      refine W_drawE (fun _ _ d A => A = .none ∧ d = .val (.bool true)) (by kernel_rfl) (by kernel_rfl) (by kernel_rfl) fun Nx hNx => ?_; refine dst (cj8 @i64.eq_1 hk hmt q3 @strD.eq_1 qn hma qa) ?_; intro Nx hNx Gx hGx
      refine ⟨hno _, ?_⟩
      (first | refine hGx _ ?_ | skip)
      (first | refine dst (cj8 @i64.eq_1 hk hmt q3 @strD.eq_1 qn hma qa) ?_; intro Nx hNx Gx hGx | skip)
      refine tq @i64.eq_1 ?_; intro Nx hNx Gx hGx
      exact ⟨⟨rfl, rfl, by subst hk; rfl, by subst hk; rfl, rfl⟩, by rw [hfl, decide_eq_true ha]; try rfl⟩
    ·
      by_cases ht : (tg.length : Int) = 0
      case neg =>
        have q3 : ((tg.length : Int) = 0) = False := eq_false ht
        have hff : F = false := by rw [hfl, if_neg (by omega), if_neg (by omega), if_neg (by omega), if_neg (by omega), decide_eq_false ht]; try rfl
        have e : y = 2 := by rw [hy2, hff, if_pos rfl]
        refine W_seq ?_
        refine W_drawE (fun _ _ _ _ => False) (by kernel_rfl) (by kernel_rfl) (by kernel_rfl) fun Nx hNx => ?_; refine dst (cj4 @i64.eq_1 hk hmt q3) ?_; intro Nx hNx Gx hGx
        refine tq @i64.eq_1 ?_; intro Nx hNx Gx hGx
        refine ⟨by simp, ?_⟩
        refine rt hret @i64.eq_1 ?_; exact ⟨_, Heap.le_refl _, hle, _, frz_refl hle, by rw [e]⟩
      have q3 : ((tg.length : Int) = 0) = True := eq_true ht
      rw [if_neg (by omega), if_neg (by omega), if_neg (by omega), if_neg (by omega), decide_eq_true ht] at hfl
      by_cases hn : nm = ByteArray.empty
      case neg =>
        have qn : (nm.toList = (ByteArray.mk #[]).toList) = False := eq_false (fun h => hn (toL_inj.1 h))
        have hff : F = false := by rw [hfl, decide_eq_false hn, Bool.and_false]
        have e : y = 2 := by rw [hy2, hff, if_pos rfl]
        refine W_seq ?_
        refine W_drawE (fun _ _ _ _ => False) (by kernel_rfl) (by kernel_rfl) (by kernel_rfl) fun Nx hNx => ?_; refine dst (cj6 @i64.eq_1 hk hmt q3 @strD.eq_1 qn) ?_; intro Nx hNx Gx hGx
        refine tq @i64.eq_1 ?_; intro Nx hNx Gx hGx
        refine ⟨by simp, ?_⟩
        refine rt hret @i64.eq_1 ?_; exact ⟨_, Heap.le_refl _, hle, _, frz_refl hle, by rw [e]⟩
      have qn : (nm.toList = (ByteArray.mk #[]).toList) = True := eq_true (toL_inj.2 hn)
      rw [decide_eq_true hn, Bool.and_true] at hfl
      cases Z
      case false =>
        have hff : F = false := by rw [hfl, Bool.and_false]
        have e : y = 2 := by rw [hy2, hff, if_pos rfl]
        refine W_seq ?_
        refine W_drawE (fun _ _ d A => A = .none ∧ d = .val (.bool false)) (by kernel_rfl) (by kernel_rfl) (by kernel_rfl) fun Nx hNx => ?_; refine dst (cj7 @i64.eq_1 hk hmt q3 @strD.eq_1 qn hma) ?_; intro Nx hNx Gx hGx
        refine ⟨hno _, ?_⟩
        (first | refine hGx _ ?_ | skip)
        (first | refine dst (cj7 @i64.eq_1 hk hmt q3 @strD.eq_1 qn hma) ?_; intro Nx hNx Gx hGx | skip)
        refine tq @i64.eq_1 ?_; intro Nx hNx Gx hGx
        refine ⟨by simp, ?_⟩
        refine rt hret @i64.eq_1 ?_; exact ⟨_, Heap.le_refl _, hle, _, frz_refl hle, by rw [e]⟩
      rw [Bool.and_true] at hfl
      by_cases ha : (ar.length : Int) = 0
      case neg =>
        have qa : ((0 : Int) < (ar.length : Int)) = True := eq_true (by omega)
        have hff : F = false := by rw [hfl, decide_eq_false ha]; rfl
        have e : y = 2 := by rw [hy2, hff, if_pos rfl]
        refine W_seq ?_
        refine W_drawE (fun _ _ d A => A = .none ∧ d = .val (.bool true)) (by kernel_rfl) (by kernel_rfl) (by kernel_rfl) fun Nx hNx => ?_; refine dst (cj8 @i64.eq_1 hk hmt q3 @strD.eq_1 qn hma qa) ?_; intro Nx hNx Gx hGx
        refine ⟨hno _, ?_⟩
        (first | refine hGx _ ?_ | skip)
        (first | refine dst (cj8 @i64.eq_1 hk hmt q3 @strD.eq_1 qn hma qa) ?_; intro Nx hNx Gx hGx | skip)
        refine tq @i64.eq_1 ?_; intro Nx hNx Gx hGx
        refine ⟨by simp, ?_⟩
        refine rt hret @i64.eq_1 ?_; exact ⟨_, Heap.le_refl _, hle, _, frz_refl hle, by rw [e]⟩
      have qa : ((0 : Int) < (ar.length : Int)) = False := eq_false (by omega)
      refine W_seq ?_
      refine W_drawE (fun _ _ d A => A = .none ∧ d = .val (.bool true)) (by kernel_rfl) (by kernel_rfl) (by kernel_rfl) fun Nx hNx => ?_; refine dst (cj8 @i64.eq_1 hk hmt q3 @strD.eq_1 qn hma qa) ?_; intro Nx hNx Gx hGx
      refine ⟨hno _, ?_⟩
      (first | refine hGx _ ?_ | skip)
      (first | refine dst (cj8 @i64.eq_1 hk hmt q3 @strD.eq_1 qn hma qa) ?_; intro Nx hNx Gx hGx | skip)
      refine tq @i64.eq_1 ?_; intro Nx hNx Gx hGx
      exact ⟨⟨rfl, rfl, by subst hk; rfl, by subst hk; rfl, rfl⟩, by rw [hfl, decide_eq_true ha]; try rfl⟩
    ·
      by_cases ht : (tg.length : Int) = 1
      case neg =>
        have q3 : ((tg.length : Int) = 1) = False := eq_false ht
        have hff : F = false := by rw [hfl, if_neg (by omega), if_neg (by omega), if_pos hk, decide_eq_false ht]; try rfl
        have e : y = 2 := by rw [hy2, hff, if_pos rfl]
        refine W_seq ?_
        refine W_drawE (fun _ _ _ _ => False) (by kernel_rfl) (by kernel_rfl) (by kernel_rfl) fun Nx hNx => ?_; refine dst (cj4 @i64.eq_1 hk hmt q3) ?_; intro Nx hNx Gx hGx
        refine tq @i64.eq_1 ?_; intro Nx hNx Gx hGx
        refine ⟨by simp, ?_⟩
        refine rt hret @i64.eq_1 ?_; exact ⟨_, Heap.le_refl _, hle, _, frz_refl hle, by rw [e]⟩
      have q3 : ((tg.length : Int) = 1) = True := eq_true ht
      rw [if_neg (by omega), if_neg (by omega), if_pos hk, decide_eq_true ht] at hfl
      refine W_seq ?_
      refine W_drawE (fun _ _ _ _ => False) (by kernel_rfl) (by kernel_rfl) (by kernel_rfl) fun Nx hNx => ?_; refine dst (cj4 @i64.eq_1 hk hmt q3) ?_; intro Nx hNx Gx hGx
      refine tq @i64.eq_1 ?_; intro Nx hNx Gx hGx
      exact ⟨⟨rfl, rfl, by subst hk; rfl, by subst hk; rfl, rfl⟩, hfl⟩
    ·
      by_cases ht : (tg.length : Int) = 1
      case neg =>
        have q3 : ((tg.length : Int) = 1) = False := eq_false ht
        have hff : F = false := by rw [hfl, if_neg (by omega), if_neg (by omega), if_neg (by omega), if_pos hk, decide_eq_false ht]; try rfl
        have e : y = 2 := by rw [hy2, hff, if_pos rfl]
        refine W_seq ?_
        refine W_drawE (fun _ _ _ _ => False) (by kernel_rfl) (by kernel_rfl) (by kernel_rfl) fun Nx hNx => ?_; refine dst (cj4 @i64.eq_1 hk hmt q3) ?_; intro Nx hNx Gx hGx
        refine tq @i64.eq_1 ?_; intro Nx hNx Gx hGx
        refine ⟨by simp, ?_⟩
        refine rt hret @i64.eq_1 ?_; exact ⟨_, Heap.le_refl _, hle, _, frz_refl hle, by rw [e]⟩
      have q3 : ((tg.length : Int) = 1) = True := eq_true ht
      rw [if_neg (by omega), if_neg (by omega), if_neg (by omega), if_pos hk, decide_eq_true ht] at hfl
      by_cases hn : nm = ByteArray.empty
      case neg =>
        have qn : (nm.toList = (ByteArray.mk #[]).toList) = False := eq_false (fun h => hn (toL_inj.1 h))
        have hff : F = false := by rw [hfl, decide_eq_false hn, Bool.and_false]
        have e : y = 2 := by rw [hy2, hff, if_pos rfl]
        refine W_seq ?_
        refine W_drawE (fun _ _ _ _ => False) (by kernel_rfl) (by kernel_rfl) (by kernel_rfl) fun Nx hNx => ?_; refine dst (cj6 @i64.eq_1 hk hmt q3 @strD.eq_1 qn) ?_; intro Nx hNx Gx hGx
        refine tq @i64.eq_1 ?_; intro Nx hNx Gx hGx
        refine ⟨by simp, ?_⟩
        refine rt hret @i64.eq_1 ?_; exact ⟨_, Heap.le_refl _, hle, _, frz_refl hle, by rw [e]⟩
      have qn : (nm.toList = (ByteArray.mk #[]).toList) = True := eq_true (toL_inj.2 hn)
      rw [decide_eq_true hn, Bool.and_true] at hfl
      by_cases ha : (ar.length : Int) = 0
      case neg =>
        have qa : ((0 : Int) < (ar.length : Int)) = True := eq_true (by omega)
        have hff : F = false := by rw [hfl, decide_eq_false ha]; rfl
        have e : y = 2 := by rw [hy2, hff, if_pos rfl]
        refine W_seq ?_
        refine W_drawE (fun _ _ _ _ => False) (by kernel_rfl) (by kernel_rfl) (by kernel_rfl) fun Nx hNx => ?_; refine dst (cj8 @i64.eq_1 hk hmt q3 @strD.eq_1 qn hma qa) ?_; intro Nx hNx Gx hGx
        refine tq @i64.eq_1 ?_; intro Nx hNx Gx hGx
        refine ⟨by simp, ?_⟩
        refine rt hret @i64.eq_1 ?_; exact ⟨_, Heap.le_refl _, hle, _, frz_refl hle, by rw [e]⟩
      have qa : ((0 : Int) < (ar.length : Int)) = False := eq_false (by omega)
      refine W_seq ?_
      refine W_drawE (fun _ _ _ _ => False) (by kernel_rfl) (by kernel_rfl) (by kernel_rfl) fun Nx hNx => ?_; refine dst (cj8 @i64.eq_1 hk hmt q3 @strD.eq_1 qn hma qa) ?_; intro Nx hNx Gx hGx
      refine tq @i64.eq_1 ?_; intro Nx hNx Gx hGx
      exact ⟨⟨rfl, rfl, by subst hk; rfl, by subst hk; rfl, rfl⟩, by rw [hfl, decide_eq_true ha]; try rfl⟩
    ·
      by_cases ht : (tg.length : Int) = 0
      case neg =>
        have q3 : ((tg.length : Int) = 0) = False := eq_false ht
        have hff : F = false := by rw [hfl, if_neg (by omega), if_neg (by omega), if_neg (by omega), if_neg (by omega), decide_eq_false ht]; try rfl
        have e : y = 2 := by rw [hy2, hff, if_pos rfl]
        refine W_seq ?_
        refine W_drawE (fun _ _ _ _ => False) (by kernel_rfl) (by kernel_rfl) (by kernel_rfl) fun Nx hNx => ?_; refine dst (cj4 @i64.eq_1 hk hmt q3) ?_; intro Nx hNx Gx hGx
        refine tq @i64.eq_1 ?_; intro Nx hNx Gx hGx
        refine ⟨by simp, ?_⟩
        refine rt hret @i64.eq_1 ?_; exact ⟨_, Heap.le_refl _, hle, _, frz_refl hle, by rw [e]⟩
      have q3 : ((tg.length : Int) = 0) = True := eq_true ht
      rw [if_neg (by omega), if_neg (by omega), if_neg (by omega), if_neg (by omega), decide_eq_true ht] at hfl
      by_cases hn : nm = ByteArray.empty
      case neg =>
        have qn : (nm.toList = (ByteArray.mk #[]).toList) = False := eq_false (fun h => hn (toL_inj.1 h))
        have hff : F = false := by rw [hfl, decide_eq_false hn, Bool.and_false]
        have e : y = 2 := by rw [hy2, hff, if_pos rfl]
        refine W_seq ?_
        refine W_drawE (fun _ _ _ _ => False) (by kernel_rfl) (by kernel_rfl) (by kernel_rfl) fun Nx hNx => ?_; refine dst (cj6 @i64.eq_1 hk hmt q3 @strD.eq_1 qn) ?_; intro Nx hNx Gx hGx
        refine tq @i64.eq_1 ?_; intro Nx hNx Gx hGx
        refine ⟨by simp, ?_⟩
        refine rt hret @i64.eq_1 ?_; exact ⟨_, Heap.le_refl _, hle, _, frz_refl hle, by rw [e]⟩
      have qn : (nm.toList = (ByteArray.mk #[]).toList) = True := eq_true (toL_inj.2 hn)
      rw [decide_eq_true hn, Bool.and_true] at hfl
      cases Z
      case false =>
        have hff : F = false := by rw [hfl, Bool.and_false]
        have e : y = 2 := by rw [hy2, hff, if_pos rfl]
        refine W_seq ?_
        refine W_drawE (fun _ _ d A => A = .none ∧ d = .val (.bool false)) (by kernel_rfl) (by kernel_rfl) (by kernel_rfl) fun Nx hNx => ?_; refine dst (cj7 @i64.eq_1 hk hmt q3 @strD.eq_1 qn hma) ?_; intro Nx hNx Gx hGx
        refine ⟨hno _, ?_⟩
        (first | refine hGx _ ?_ | skip)
        (first | refine dst (cj7 @i64.eq_1 hk hmt q3 @strD.eq_1 qn hma) ?_; intro Nx hNx Gx hGx | skip)
        refine tq @i64.eq_1 ?_; intro Nx hNx Gx hGx
        refine ⟨by simp, ?_⟩
        refine rt hret @i64.eq_1 ?_; exact ⟨_, Heap.le_refl _, hle, _, frz_refl hle, by rw [e]⟩
      rw [Bool.and_true] at hfl
      by_cases ha : (ar.length : Int) = 0
      case neg =>
        have qa : ((0 : Int) < (ar.length : Int)) = True := eq_true (by omega)
        have hff : F = false := by rw [hfl, decide_eq_false ha]; rfl
        have e : y = 2 := by rw [hy2, hff, if_pos rfl]
        refine W_seq ?_
        refine W_drawE (fun _ _ d A => A = .none ∧ d = .val (.bool true)) (by kernel_rfl) (by kernel_rfl) (by kernel_rfl) fun Nx hNx => ?_; refine dst (cj8 @i64.eq_1 hk hmt q3 @strD.eq_1 qn hma qa) ?_; intro Nx hNx Gx hGx
        refine ⟨hno _, ?_⟩
        (first | refine hGx _ ?_ | skip)
        (first | refine dst (cj8 @i64.eq_1 hk hmt q3 @strD.eq_1 qn hma qa) ?_; intro Nx hNx Gx hGx | skip)
        refine tq @i64.eq_1 ?_; intro Nx hNx Gx hGx
        refine ⟨by simp, ?_⟩
        refine rt hret @i64.eq_1 ?_; exact ⟨_, Heap.le_refl _, hle, _, frz_refl hle, by rw [e]⟩
      have qa : ((0 : Int) < (ar.length : Int)) = False := eq_false (by omega)
      refine W_seq ?_
      refine W_drawE (fun _ _ d A => A = .none ∧ d = .val (.bool true)) (by kernel_rfl) (by kernel_rfl) (by kernel_rfl) fun Nx hNx => ?_; refine dst (cj8 @i64.eq_1 hk hmt q3 @strD.eq_1 qn hma qa) ?_; intro Nx hNx Gx hGx
      refine ⟨hno _, ?_⟩
      (first | refine hGx _ ?_ | skip)
      (first | refine dst (cj8 @i64.eq_1 hk hmt q3 @strD.eq_1 qn hma qa) ?_; intro Nx hNx Gx hGx | skip)
      refine tq @i64.eq_1 ?_; intro Nx hNx Gx hGx
      exact ⟨⟨rfl, rfl, by subst hk; rfl, by subst hk; rfl, rfl⟩, by rw [hfl, decide_eq_true ha]; try rfl⟩
  rintro s1 ⟨⟨hdf1, f2, f3, f6, hH1⟩, hF⟩
  rw [hF, if_neg (fun h => by cases h)] at hy2
  have hf1 := hf1 hF
  have hf0 := hf0 hF
  clear hfl hno
  rw [hR] at hy2
  unfold tmR at hy2
  refine tq @i64.eq_1 ?_; intro Nx hNx Gx hGx
  refine W_loopN tg.length (fun i s => T1 b k tg ar pl nm H s ∧ s.fr 7 = i64 i ∧ (tg.all fun x => decide (InR b.bl.length x)) = ((tg.drop i).all fun x => decide (InR b.bl.length x))) ⟨⟨hdf1, f2, f3, f6, hH1⟩, rfl, rfl⟩ ?_
  clear f2 f3 f6 hH1 hdf1
  rintro i s hi ⟨⟨hdf, f2, f3, f6, hH⟩, f7, ha⟩
  have hx : (i : Int).toNat = i := Int.toNat_natCast _
  have h00 : (0 : Int) ≤ (i : Int) := Int.natCast_nonneg _
  have hleS : H.le s.H := by rw [hH]; exact Heap.le_refl _
  by_cases hil : i < tg.length
  case pos =>
    have hil' : (i : Int) < (tg.length : Int) := by omega
    have q6 : ((i : Int) < (tg.length : Int)) = True := eq_true hil'
    have w3 : IntKind.i64.wrap ((i : Int) + 1) = ((i + 1 : Nat) : Int) := by rw [wrap_i64_of (by omega)]; omega
    have hgi := get_ints hil
    rw [List.drop_eq_getElem_cons hil, List.all_cons] at ha
    obtain ⟨v, hv⟩ : ∃ v, v = tg[i] := ⟨_, rfl⟩
    rw [← hv] at hgi ha
    have hbad : ¬ InR b.bl.length v → y = 3 := fun h => by rw [decide_eq_false h, Bool.false_and] at ha; rw [hy2, ha]; rfl
    refine tq (cj5 f3 f7 @i64.eq_1 hmt q6) ?_; intro Nx hNx Gx hGx
    (try refine W_seq ?_)
    by_cases h3 : v < 0
    · have q3 : (v < 0) = True := eq_true h3
      have e := hbad (by unfold InR; omega)
      refine W_drawE (fun _ _ _ _ => False) (by kernel_rfl) (by kernel_rfl) (by kernel_rfl) fun Nx hNx => ?_; refine dst (cj11 f2 f3 f7 @i64.eq_1 hmt hgi hx h00 hil hil' q3) ?_; intro Nx hNx Gx hGx
      exact oz hret (cj2 @i64.eq_1 @i64.eq_1) hleS e
    have q3 : (v < 0) = False := eq_false h3
    by_cases h4 : (b.bl.length : Int) ≤ v
    · have q4 : (v ≥ (b.bl.length : Int)) = True := eq_true h4
      have e := hbad (by unfold InR; omega)
      refine W_drawE (fun _ _ _ _ => False) (by kernel_rfl) (by kernel_rfl) (by kernel_rfl) fun Nx hNx => ?_; refine dst (cj13 f2 f3 f7 @i64.eq_1 hmt hmb hgi hx h00 hil hil' q3 q4) ?_; intro Nx hNx Gx hGx
      exact oz hret (cj2 @i64.eq_1 @i64.eq_1) hleS e
    have q4 : (v ≥ (b.bl.length : Int)) = False := eq_false h4
    rw [decide_eq_true (by unfold InR; omega : InR b.bl.length v), Bool.true_and] at ha
    refine W_drawE (fun _ _ _ _ => False) (by kernel_rfl) (by kernel_rfl) (by kernel_rfl) fun Nx hNx => ?_; refine dst (cj13 f2 f3 f7 @i64.eq_1 hmt hmb hgi hx h00 hil hil' q3 q4) ?_; intro Nx hNx Gx hGx
    refine tq (cj3 f7 @i64.eq_1 w3) ?_; intro Nx hNx Gx hGx
    exact ⟨hil, ⟨hdf, f2, f3, f6, hH⟩, rfl, ha⟩
  have q6 : ((i : Int) < (tg.length : Int)) = False := eq_false (by omega)
  rw [List.drop_eq_nil_of_le (by omega), List.all_nil] at ha
  rw [ha, if_neg (fun h => by cases h)] at hy2
  clear ha
  have hl1 : k ≠ 3 → ar.length ≤ 1 := fun h => by
    by_cases h1 : k = 1
    · have := hf1 h1; omega
    · have := hf0 h1 h; omega
  obtain ⟨I, hI⟩ : ∃ I, I = isId nm := ⟨_, rfl⟩
  rw [← hI] at hid hy2
  clear hI
  rw [← hH] at hid
  (have fs := And.intro f3 (And.intro f7 (And.intro @i64.eq_1 (And.intro hmt q6))); (iterate 6 (first | refine hGx _ ?_ | refine hNx _ ?_ | refine W_skip ?_ | refine W_exit ?_ | refine W_ret ?_ | refine W_label ?_ | refine W_scope ?_ | refine W_block ?_ | refine W_seq ?_ | ((first | refine tS fun Nx hNx => ?_ | refine WL_gE rfl rfl (by kernel_rfl) (by kernel_rfl) fun Gx hGx => ?_ | refine vcOpsS_sound (by kernel_rfl) ?_ | refine W_ifE fun A B hAx hBx => ?_); refine evT ?_; (first | refine hGx _ ?_ | refine hNx _ ?_ | refine hAx ?_ | refine hBx ?_ | skip)))); (try clear fs))
  refine W_toR (fun s => T1 b k tg ar pl nm H s ∧ ¬ (k = 3 ∧ I = false)) ?_ ?_
  · by_cases hk3 : k = 3
    · have k3 : (k = 3) = True := eq_true hk3
      refine tq (cj4 f3 f6 @i64.eq_1 k3) ?_; intro Nx hNx Gx hGx
      refine hid.mono ?_
      rintro d _ ⟨rfl, hHH⟩
      cases I
      · have e : y = 12 := by rw [hy2, if_neg (by omega), if_pos hk3]; rfl
        rw [hHH] at hleS
        refine tq @i64.eq_1 ?_; intro Nx hNx Gx hGx
        refine ⟨by simp, ?_⟩
        refine rt hret hdf ?_; exact ⟨_, Heap.le_refl _, hleS, _, frz_refl hleS, by rw [e]; rfl⟩
      · refine tq @i64.eq_1 ?_; intro Nx hNx Gx hGx
        exact ⟨⟨hdf, f2, f3, f6, hHH ▸ hH⟩, fun h => by cases h.2⟩
    · have k3 : (k = 3) = False := eq_false hk3
      refine tq (cj4 f3 f6 @i64.eq_1 k3) ?_; intro Nx hNx Gx hGx
      exact ⟨⟨hdf, f2, f3, f6, hH⟩, fun h => hk3 h.1⟩
  clear f2 f3 f6 f7 hH hdf hleS hid
  rintro s1 ⟨⟨hdf, f2, f3, f6, hH⟩, hI⟩
  have hleS : H.le s1.H := by rw [hH]; exact Heap.le_refl _
  refine W_seq ?_
  refine W_toR (fun s => T1 b k tg ar pl nm H s ∧ ¬ (k = 3 ∧ 65535 < ar.length)) ?_ ?_
  · by_cases h5 : 65535 < ar.length
    · have hk3 : k = 3 := Classical.byContradiction fun h => by have := hl1 h; omega
      have q5 : ((65535 : Int) < (ar.length : Int)) = True := eq_true (by omega)
      have e : y = 15 := by rw [hy2, if_neg (by omega), if_pos hk3, if_neg (fun h => hI ⟨hk3, h⟩), if_pos h5]
      refine tq (cj4 f3 @i64.eq_1 hma q5) ?_; intro Nx hNx Gx hGx
      refine ⟨by simp, ?_⟩
      refine rt hret hdf ?_; exact ⟨_, Heap.le_refl _, hleS, _, frz_refl hleS, by rw [e]; rfl⟩
    · have q5 : ((65535 : Int) < (ar.length : Int)) = False := eq_false (by omega)
      refine tq (cj4 f3 @i64.eq_1 hma q5) ?_; intro Nx hNx Gx hGx
      exact ⟨⟨hdf, f2, f3, f6, hH⟩, fun h => h5 h.2⟩
  clear f2 f3 f6 hH hdf hleS
  rintro s2 ⟨⟨hdf, f2, f3, f6, hH⟩, hL⟩
  have hE : opsE b ar [] ≠ 0 → y = opsE b ar [] := fun h => by
    by_cases hk1 : k = 1
    · have hl := hf1 hk1
      have ho := ho0 hl
      have h2 : opsE b [O] [] = if opE b O ≠ 0 then opE b O else 0 := rfl
      rw [← ho, h2] at h ⊢
      rw [hy2, if_pos hk1]
      by_cases hz : opE b O = 0
      · rw [if_neg (fun k => k hz)] at h; exact absurd rfl h
      · rw [if_pos hz, if_pos hz]
    · by_cases hk3 : k = 3
      · rw [hy2, if_neg hk1, if_pos hk3, if_neg (fun h => hI ⟨hk3, h⟩), if_neg (fun h => hL ⟨hk3, h⟩), if_pos h]
      · have h0 := hf0 hk1 hk3
        rw [List.length_eq_zero_iff.1 h0] at h; exact absurd rfl h
  refine tq @i64.eq_1 ?_; intro Nx hNx Gx hGx
  refine W_loopN ar.length (fun i s => T1 b k tg ar pl nm H s ∧ s.fr 8 = i64 i ∧ opsE b ar [] = opsE b (ar.drop i) []) ⟨⟨hdf, f2, f3, f6, hH⟩, rfl, rfl⟩ ?_
  clear f2 f3 f6 hH hdf
  clear hi hx h00 q6 hil
  rintro i s hi ⟨⟨hdf, f2, f3, f6, hH⟩, f8, ha⟩
  have hx : (i : Int).toNat = i := Int.toNat_natCast _
  have h00 : (0 : Int) ≤ (i : Int) := Int.natCast_nonneg _
  have hleS : H.le s.H := by rw [hH]; exact Heap.le_refl _
  by_cases hil : i < ar.length
  case pos =>
    have hil' : (i : Int) < (ar.length : Int) := by omega
    have q6 : ((i : Int) < (ar.length : Int)) = True := eq_true hil'
    have w3 : IntKind.i64.wrap ((i : Int) + 1) = ((i + 1 : Nat) : Int) := by rw [wrap_i64_of (by omega)]; omega
    have hgi := op_get hil
    have hop := hop _ (List.getElem_mem hil) s.H
    rw [List.drop_eq_getElem_cons hil] at ha
    obtain ⟨o, ho⟩ : ∃ o, o = ar[i] := ⟨_, rfl⟩
    rw [← ho] at hgi ha hop
    clear ho
    obtain ⟨oE, hoE⟩ : ∃ oE, oE = opE b o := ⟨_, rfl⟩
    have hstep : opsE b (o :: ar.drop (i + 1)) [] = if oE ≠ 0 then oE else opsE b (ar.drop (i + 1)) [] := by rw [hoE]; rfl
    rw [hstep] at ha
    rw [← hoE] at hop
    clear hstep hoE
    simp only [opD] at hgi
    refine tq (cj5 f3 f8 @i64.eq_1 hma q6) ?_; intro Nx hNx Gx hGx
    (try refine W_seq ?_)
    refine W_drawE (fun _ _ d A => A = .none ∧ d = i64 oE) (by kernel_rfl) (by kernel_rfl) (by kernel_rfl) fun Nx hNx => ?_; refine dst (cj10 f2 f3 f8 @i64.eq_1 hma hgi hx h00 hil hil') ?_; intro Nx hNx Gx hGx
    refine ⟨hop, ?_⟩
    (first | refine hGx _ ?_ | refine hNx _ ?_ | skip)
    by_cases h0 : oE = 0
    · have q0 : (oE = 0) = True := eq_true h0
      rw [if_neg (fun h => h h0)] at ha
      refine tq (cj4 f8 @i64.eq_1 q0 w3) ?_; intro Nx hNx Gx hGx
      exact ⟨hil, ⟨hdf, f2, f3, f6, hH⟩, rfl, ha⟩
    · have q0 : (oE = 0) = False := eq_false h0
      rw [if_pos h0] at ha
      have e : y = oE := by rw [hE (by rw [ha]; exact h0), ha]
      exact oz hret (cj2 @i64.eq_1 q0) hleS e
  have q6 : ((i : Int) < (ar.length : Int)) = False := eq_false (by omega)
  rw [List.drop_eq_nil_of_le (by omega)] at ha
  have hs0 : opsE b ar [] = 0 := by rw [ha]; rfl
  have hall := opsE_all hs0
  clear hE ha hop
  obtain ⟨T, hT⟩ : ∃ T, T = toE b pl := ⟨_, rfl⟩
  obtain ⟨Mu, hM⟩ : ∃ Mu, Mu = mutP b.ty b.lc pl := ⟨_, rfl⟩
  obtain ⟨Hd, hHd⟩ : ∃ Hd, Hd = hasDr pl 0 := ⟨_, rfl⟩
  unfold wrtE at hy2
  rw [← hT, ← hM, ← hHd] at hy2
  rw [← hT] at hty
  rw [← hM] at hmu
  rw [← hHd] at hdr
  clear hT hM hHd
  rw [← hH] at hty hmu hdr
  by_cases hk1 : k = 1
  · have k1 : (k = 1) = True := eq_true hk1
    have k3 : (k = 3) = False := eq_false (by omega)
    have k4 : (k = 4) = False := eq_false (by omega)
    have hl := hf1 hk1
    have hl0 : 0 < ar.length := by omega
    have hg0 := op_get hl0
    have hO : ar[0] = O := by
      have := ho0 hl
      simp only [← this, List.getElem_cons_zero]
    have hfk := hfk _ (List.getElem_mem hl0) (hall _ (List.getElem_mem hl0)) s.H
    have hz0 := hall _ (List.getElem_mem hl0)
    rw [hO] at hg0 hfk hz0
    rw [if_pos hk1, if_neg (fun h => h hz0)] at hy2
    simp only [opD] at hg0
    by_cases hd : kdE b O = 1
    · have e : y = 0 := by rw [hy2, if_neg (fun h => h hd)]
      rw [decide_eq_true hd] at hfk
      refine tq (cj5 f3 f8 @i64.eq_1 hma q6) ?_; intro Nx hNx Gx hGx
      (try refine W_seq ?_)
      refine W_drawE (fun _ _ d A => A = .none ∧ d = .val (.bool true)) (by kernel_rfl) (by kernel_rfl) (by kernel_rfl) fun Nx hNx => ?_; refine dst (cj7 f2 f3 @i64.eq_1 k1 hg0 hma hl) ?_; intro Nx hNx Gx hGx
      refine ⟨hfk, ?_⟩
      (first | refine hGx _ ?_ | skip)
      (first | refine dst @i64.eq_1 ?_; intro Nx hNx Gx hGx | skip)
      exact oz hret (cj5 @i64.eq_1 f3 f6 k3 k4) hleS e
    · have e : y = 22 := by rw [hy2, if_pos hd]
      rw [decide_eq_false hd] at hfk
      refine tq (cj5 f3 f8 @i64.eq_1 hma q6) ?_; intro Nx hNx Gx hGx
      (try refine W_seq ?_)
      refine W_drawE (fun _ _ d A => A = .none ∧ d = .val (.bool false)) (by kernel_rfl) (by kernel_rfl) (by kernel_rfl) fun Nx hNx => ?_; refine dst (cj7 f2 f3 @i64.eq_1 k1 hg0 hma hl) ?_; intro Nx hNx Gx hGx
      refine ⟨hfk, ?_⟩
      (first | refine hGx _ ?_ | skip)
      (first | refine dst @i64.eq_1 ?_; intro Nx hNx Gx hGx | skip)
      exact oz hret (cj5 @i64.eq_1 f3 f6 k3 k4) hleS e
  have k1 : (k = 1) = False := eq_false hk1
  rw [if_neg hk1] at hy2
  refine tq (cj5 f3 f8 @i64.eq_1 hma q6) ?_; intro Nx hNx Gx hGx
  (try refine W_seq ?_)
  refine W_drawE (fun _ _ _ _ => False) (by kernel_rfl) (by kernel_rfl) (by kernel_rfl) fun Nx hNx => ?_; refine dst (cj4 f2 f3 @i64.eq_1 k1) ?_; intro Nx hNx Gx hGx
  by_cases hk3 : k = 3
  · have k3 : (k = 3) = True := eq_true hk3
    have k4 : (k = 4) = False := eq_false (by omega)
    rw [if_pos hk3, if_neg (fun h => hI ⟨hk3, h⟩), if_neg (fun h => hL ⟨hk3, h⟩), if_neg (fun h => h hs0)] at hy2
    refine tq (cj5 f2 f3 f6 @i64.eq_1 k3) ?_; intro Nx hNx Gx hGx
    refine hty.mono ?_
    rintro d _ ⟨rfl, hHH⟩
    rw [hHH] at hmu hleS
    by_cases h2 : T.2 = 0
    case neg =>
      have q2 : (T.2 = 0) = False := eq_false h2
      have e : y = T.2 := hy2.trans (if_pos h2)
      exact oz hret (cj2 @i64.eq_1 q2) hleS e
    have q2 : (T.2 = 0) = True := eq_true h2
    rw [if_neg (fun h => h h2)] at hy2
    refine tq (cj6 f2 f3 f6 @i64.eq_1 k3 q2) ?_; intro Nx hNx Gx hGx
    refine hmu.mono ?_
    rintro d _ ⟨rfl, hHH2⟩
    rw [hHH2] at hleS
    cases Mu
    · have e : y = 22 := hy2
      exact oz hret (cj3 @i64.eq_1 f3 k4) hleS e
    · have e : y = 0 := hy2
      exact oz hret (cj3 @i64.eq_1 f3 k4) hleS e
  have k3 : (k = 3) = False := eq_false hk3
  rw [if_neg hk3] at hy2
  by_cases hk4 : k = 4
  · have k4 : (k = 4) = True := eq_true hk4
    rw [if_pos hk4] at hy2
    refine tq (cj6 f2 f3 f6 @i64.eq_1 k3 k4) ?_; intro Nx hNx Gx hGx
    refine hty.mono ?_
    rintro d _ ⟨rfl, hHH⟩
    rw [hHH] at hdr hleS
    by_cases h2 : T.2 = 0
    case neg =>
      have q2 : (T.2 = 0) = False := eq_false h2
      have e : y = T.2 := hy2.trans (if_pos h2)
      exact oz hret (cj2 @i64.eq_1 q2) hleS e
    have q2 : (T.2 = 0) = True := eq_true h2
    rw [if_neg (fun h => h h2)] at hy2
    refine tq (cj7 f2 f3 f6 @i64.eq_1 k3 k4 q2) ?_; intro Nx hNx Gx hGx
    refine hdr.mono ?_
    rintro d _ ⟨rfl, hHH2⟩
    rw [hHH2] at hleS
    have e := hy2
    cases Hd
    · exact oz hret (cj2 @i64.eq_1 @i64.eq_1) hleS e
    · exact oz hret (cj2 @i64.eq_1 @i64.eq_1) hleS e
  have k4 : (k = 4) = False := eq_false hk4
  rw [if_neg hk4] at hy2
  have e := hy2
  exact oz hret (cj6 @i64.eq_1 f2 f3 f6 k3 k4) hleS e
end Go.Proofs.YtgfhgeelfaalmaaGreatDoor
namespace Go.Proofs.YtgfhgeelfaalmaaGreatDoor
open Go.RowKit
set_option maxRecDepth 100000
set_option linter.unusedVariables false
set_option linter.unusedSimpArgs false
theorem alive10_ok (H1 : Heap) : CallOK Tryz.prog 10 [] H1 fun d A => A = Heap.none ∧ d = .val (.bool true) := callOK_eq fun H'' hle'' => alive10_at H''
def tB (t : TmS) : BdS := ⟨ByteArray.empty, [], [], [], [], 0, [⟨[], t⟩]⟩
theorem ok_tB {t : TmS} (h : okTm t) : okBd (tB t) := by
  refine ⟨by unfold big; exact Nat.zero_le _, by unfold big; exact Nat.zero_le _, ⟨by unfold big; exact Nat.zero_le _, fun t ht => by simp [tB] at ht⟩, by unfold big; exact Nat.zero_le _, by unfold big; show 1 ≤ _; decide, ?_⟩
  intro x hx
  have : x = ⟨[], t⟩ := by simpa [tB] using hx
  subst this
  exact ⟨⟨by unfold big; exact Nat.zero_le _, fun y hy => by simp at hy⟩, h⟩
set_option maxHeartbeats 1000000 in
theorem ltrm_N (b : BdS) (o : TmS) (ok : okBd b) (hp : okTm o) : Does Tryz.prog 6 [.agg (bdD b), .agg (tmD o)] .none fun d _ => d = .val (.bool true) := by
  have hsk := skip10_N b .none ok
  have hde := fun sm => kdecl_N b .none (sb_of ok sm)
  have hnm : ¬ 3000 < tot (tB o) → big o.nm.size := fun h => by
    rw [tot_is] at h
    have e : sm szB (tB o).bl = szB ⟨[], o⟩ + 0 := rfl
    have e2 : o.nm.size ≤ szB ⟨[], o⟩ := by unfold szB; simp only; omega
    unfold big; omega
  have hv : ¬ 3000 < tot (tB o) → Sm b → decE b = 0 → ∀ H1, CallOK Tryz.prog 19 [.agg (bdD b), .agg (tmD o)] H1 fun d A => A = Heap.none ∧ d = i64 (tmE b o) := fun hs sm hd H1 => callOK_eq fun H'' hle'' => term10_N b o H'' (ck_of ok sm hd) hd hp (hnm hs)
  have hk : ¬ 3000 < tot (tB o) → Sm b → decE b = 0 → ∀ H1, CallOK Tryz.prog 20 [.agg (bdD b), .agg (tmD o)] H1 fun d A => A = Heap.none ∧ d = i64 (tmE b o) := fun hs sm hd H1 => callOK_eq fun H'' hle'' => kterm_N b o H'' (ck_of ok sm hd) hp (hnm hs)
  have hlg := (large_N (tB o) .none (ok_tB hp)).imp (ds := [.agg [strD ByteArray.empty, .val (.slice none 0 0), .val (.slice none 0 0), .val (.slice none 0 0), .val (.slice none 0 0), i64 0, .seq 7 [[.val (.slice none 0 0), i64 o.k, .seq 1 (o.tg.map iD), .seq 4 (o.ar.map opD), i64 o.pl.lo, .seq 2 (o.pl.pr.map pD), strD o.nm]]]]) ⟨imp_aggB ⟨imp_refl _, imp_nil, imp_nil, imp_nil, imp_nil, imp_refl _, imp_seq ⟨⟨imp_nil, imp_refl _, imp_refl _, imp_refl _, imp_refl _, imp_refl _, imp_refl _, trivial⟩, trivial⟩, trivial⟩, trivial⟩
  obtain ⟨L, hL⟩ : ∃ L, L = lg (tB o) := ⟨_, rfl⟩
  rw [← hL] at hlg
  unfold lg at hL
  obtain ⟨C, hC⟩ : ∃ C, C = tmE b o := ⟨_, rfl⟩
  rw [← hC] at hv hk
  clear hC
  rw [bdD_eq] at hsk hde hv hk ⊢
  simp only [tmD] at hv hk ⊢
  refine does_of _ _ Tryz.func6 rfl rfl Tryz.ntmps6 Tryz.results6 (by simp only [List.length_cons, List.length_nil]; omega) fun w0 g0 Q hret => ?_
  refine tq @i64.eq_1 ?_; intro Nx hNx Gx hGx
  intro c2 hc2 c3 hc3
  refine hNx _ ?_
  obtain ⟨nFz, hFz⟩ := Heap.upd_none.1 hc3; refine W_frzp 2 rfl ((Heap.upd_ne nFz.symm).trans (Heap.upd_same _ _ _)) rfl ?_; refine W_frzp 3 rfl ((Heap.del_ne nFz).trans (Heap.upd_same _ _ _)) rfl ?_; refine W_less _ (le_two hc2 hFz) ?_; simp only [St.frzp, List.drop]
  refine tq @i64.eq_1 ?_; intro Nx hNx Gx hGx
  refine hsk.mono ?_
  rintro d _ ⟨hd, rfl⟩
  rcases hd with rfl | ⟨rfl, sm⟩
  · refine tq @i64.eq_1 ?_; intro Nx hNx Gx hGx
    refine (alive10_at _).mono ?_; rintro d _ ⟨rfl, rfl⟩; refine tq @i64.eq_1 ?_; intro Nx hNx Gx hGx; refine rt hret @i64.eq_1 ?_; exact ⟨_, Heap.le_refl _⟩
  refine tq @i64.eq_1 ?_; intro Nx hNx Gx hGx
  refine hlg.mono ?_
  rintro d _ ⟨rfl, rfl⟩
  by_cases h1 : 3000 < tot (tB o)
  · rw [if_pos h1] at hL
    subst hL
    refine tq @i64.eq_1 ?_; intro Nx hNx Gx hGx
    refine (alive10_at _).mono ?_; rintro d _ ⟨rfl, rfl⟩; refine tq @i64.eq_1 ?_; intro Nx hNx Gx hGx; refine rt hret @i64.eq_1 ?_; exact ⟨_, Heap.le_refl _⟩
  rw [if_neg h1] at hL
  subst hL
  refine tq @i64.eq_1 ?_; intro Nx hNx Gx hGx
  refine (hde sm).mono ?_
  rintro d _ ⟨rfl, rfl⟩
  by_cases h2 : decE b = 0
  case neg =>
    have q2 : (decE b = 0) = False := eq_false h2
    refine tq (cj2 @i64.eq_1 q2) ?_; intro Nx hNx Gx hGx
    refine (alive10_at _).mono ?_; rintro d _ ⟨rfl, rfl⟩; refine tq @i64.eq_1 ?_; intro Nx hNx Gx hGx; refine rt hret @i64.eq_1 ?_; exact ⟨_, Heap.le_refl _⟩
  have q2 : (decE b = 0) = True := eq_true h2
  refine tq (cj2 @i64.eq_1 q2) ?_; intro Nx hNx Gx hGx
  (try refine W_seq ?_)
  have qe : (C = C) = True := eq_true rfl
  refine W_drawE (fun t _ d A => A = .none ∧ d = (if t = some 22 then .val (.bool true) else i64 C)) (by kernel_rfl) (by kernel_rfl) (by kernel_rfl) fun Nx hNx => ?_; refine dst @i64.eq_1 ?_; intro Nx hNx Gx hGx
  refine ⟨alive10_ok _, ?_⟩
  (first | refine hGx _ ?_ | refine hNx _ ?_ | skip)
  (first | refine dst (cj2 @i64.eq_1 qe) ?_; intro Nx hNx Gx hGx | skip)
  refine ⟨hv h1 sm h2 _, ?_⟩
  (first | refine hGx _ ?_ | skip)
  (first | refine dst (cj2 @i64.eq_1 qe) ?_; intro Nx hNx Gx hGx | skip)
  refine ⟨hk h1 sm h2 _, ?_⟩
  (first | refine hGx _ ?_ | skip)
  (first | refine dst (cj2 @i64.eq_1 qe) ?_; intro Nx hNx Gx hGx | skip)
  refine tq @i64.eq_1 ?_; intro Nx hNx Gx hGx
  refine rt hret @i64.eq_1 ?_; exact ⟨_, Heap.le_refl _⟩
theorem ValidTerms_walk (x0 : X) (v0 : Value) (x1 : X) (v1 : Value) (w : World) (o0 : DT.ok (DT.struct [DT.string, DT.slice 1 16 (DT.string), DT.slice 2 16 (DT.array 2 (DT.int .i64)), DT.slice 5 56 (DT.struct [DT.int .i64, DT.bool, DT.int .i64, DT.int .i64, DT.slice 1 8 (DT.int .i64)]), DT.slice 2 24 (DT.struct [DT.string, DT.int .i64]), DT.int .i64, DT.slice 7 128 (DT.struct [DT.slice 11 136 (DT.struct [DT.int .i64, DT.struct [DT.int .i64, DT.slice 2 16 (DT.struct [DT.int .i64, DT.int .i64])], DT.struct [DT.int .i64, DT.int .i64, DT.int .i64, DT.bool, DT.struct [DT.int .i64, DT.slice 2 16 (DT.struct [DT.int .i64, DT.int .i64])], DT.slice 4 48 (DT.struct [DT.int .i64, DT.struct [DT.int .i64, DT.slice 2 16 (DT.struct [DT.int .i64, DT.int .i64])], DT.int .i64])], DT.int .i64]), DT.struct [DT.int .i64, DT.slice 1 8 (DT.int .i64), DT.slice 4 48 (DT.struct [DT.int .i64, DT.struct [DT.int .i64, DT.slice 2 16 (DT.struct [DT.int .i64, DT.int .i64])], DT.int .i64]), DT.struct [DT.int .i64, DT.slice 2 16 (DT.struct [DT.int .i64, DT.int .i64])], DT.string]])]) x0) (i0 : D.is w Heap.none.others x0.d v0) (o1 : DT.ok (DT.struct [DT.int .i64, DT.slice 1 8 (DT.int .i64), DT.slice 4 48 (DT.struct [DT.int .i64, DT.struct [DT.int .i64, DT.slice 2 16 (DT.struct [DT.int .i64, DT.int .i64])], DT.int .i64]), DT.struct [DT.int .i64, DT.slice 2 16 (DT.struct [DT.int .i64, DT.int .i64])], DT.string]) x1) (i1 : D.is w Heap.none.others x1.d v1) (hG : GOk w Heap.none) :
    Calls Tryz.prog 6 #[v0, v1] w fun e w' => e = .returned (.bool true) ∧ Below w.heap.size w w' := by
  obtain ⟨a, ha, hoka⟩ := ok_body o0
  rw [ha] at i0
  obtain ⟨p, hpc, hp⟩ := c_Tm x1 o1
  have h1 : x1.d = .agg (X.cs x1) := by
    obtain ⟨xs, rfl, _⟩ := ok_s o1
    rfl
  rw [h1, hpc] at i1
  exact walk_of (ltrm_N a p hoka hp) ⟨_, _, rfl, i0, _, _, rfl, i1, rfl⟩ hG
end Go.Proofs.YtgfhgeelfaalmaaGreatDoor
