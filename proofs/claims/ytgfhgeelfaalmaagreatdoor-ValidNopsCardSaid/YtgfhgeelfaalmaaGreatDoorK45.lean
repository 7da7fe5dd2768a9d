/- Lemmas and contracts of functions, several texts in one: Q9 QA QB UEc. -/
import Derived.Test.YtgfhgeelfaalmaaGreatDoorK23
import Derived.Test.YtgfhgeelfaalmaaGreatDoorK24
import Derived.Test.YtgfhgeelfaalmaaGreatDoorK05
import Derived.Test.YtgfhgeelfaalmaaGreatDoorK25
import Derived.Test.YtgfhgeelfaalmaaGreatDoorK16
import Derived.Test.YtgfhgeelfaalmaaGreatDoorK20
namespace Go.Proofs.YtgfhgeelfaalmaaGreatDoor
open Go.RowKit
set_option maxRecDepth 100000
set_option linter.unusedVariables false
set_option linter.unusedSimpArgs false
set_option maxHeartbeats 1000000 in
theorem kpcheck_N (p : PlS) (H : Heap) (hp : big p.pr.length) : Does Tryz.prog 89 [.agg (plD p)] H fun d H' => d = i64 (chkP p) ∧ H = H' := by
  unfold big at hp
  have hml : (List.map pD p.pr).length = p.pr.length := List.length_map _
  refine Does.frz (K := fun d => d = i64 (chkP p)) ?_
  refine does_of _ _ Tryz.func89 rfl rfl Tryz.ntmps89 Tryz.results89 (by simp only [List.length_cons, List.length_nil]; omega) fun w0 g0 Q hret => ?_
  refine tq (cj2 @i64.eq_1 @plD.eq_1) ?_; intro Nx hNx Gx hGx
  intro c1 hc1
  refine hNx _ ?_
  refine frz 1 hc1 ?_
  by_cases h0 : p.lo < 0
  · have p1 : (p.lo < 0) = True := eq_true h0
    have hd : chkP p = 3 := if_pos h0
    refine tq (cj2 @i64.eq_1 p1) ?_; intro Nx hNx Gx hGx
    refine rt hret @i64.eq_1 ?_
    exact ⟨_, Heap.le_refl _, Heap.le_refl _, _, frz_refl (Heap.le_refl _), by rw [hd]⟩
  have p1 : (p.lo < 0) = False := eq_false h0
  by_cases h1 : 32 < p.pr.length
  · have p2 : ((p.pr.length : Int) > 32) = True := eq_true (by omega)
    have hd : chkP p = 19 := by unfold chkP; rw [if_neg h0, if_pos h1]
    refine tq (cj4 @i64.eq_1 p1 hml p2) ?_; intro Nx hNx Gx hGx
    refine rt hret @i64.eq_1 ?_
    exact ⟨_, Heap.le_refl _, Heap.le_refl _, _, frz_refl (Heap.le_refl _), by rw [hd]⟩
  have p2 : ((p.pr.length : Int) > 32) = False := eq_false (by omega)
  have hd : chkP p = chkPr p.pr := by unfold chkP; rw [if_neg h0, if_neg h1]
  rw [hd] at hret
  refine tq (cj4 @i64.eq_1 p1 hml p2) ?_; intro Nx hNx Gx hGx
  refine W_loopN p.pr.length (fun i s => s.df = [] ∧ s.fr 1 = .rp [i64 p.lo, .seq 2 (p.pr.map pD)] ∧ s.fr 3 = i64 i ∧ H.le s.H ∧ chkPr p.pr = chkPr (p.pr.drop i)) ⟨rfl, rfl, rfl, Heap.le_refl _, rfl⟩ ?_
  rintro i s hi ⟨hdf, f1, f3, hle, hck⟩
  have hx : (i : Int).toNat = i := Int.toNat_natCast _
  have h00 : (0 : Int) ≤ (i : Int) := Int.natCast_nonneg _
  by_cases hil : i < p.pr.length
  case neg =>
    have q1 : ((i : Int) < (p.pr.length : Int)) = False := eq_false (by omega)
    rw [List.drop_eq_nil_of_le (by omega)] at hck
    refine tq (cj5 f1 f3 @i64.eq_1 q1 hml) ?_; intro Nx hNx Gx hGx
    refine rt hret hdf ?_
    exact ⟨_, Heap.le_refl _, hle, _, frz_refl hle, by rw [hck]; rfl⟩
  have hil' : (i : Int) < (p.pr.length : Int) := by omega
  have q1 : ((i : Int) < (p.pr.length : Int)) = True := eq_true hil'
  have w3 : IntKind.i64.wrap ((i : Int) + 1) = ((i + 1 : Nat) : Int) := by rw [wrap_i64_of (by omega)]; omega
  have hgi := get_prs hil
  rw [chkPr_drop hil] at hck
  rcases he : p.pr[i] with ⟨k, f⟩
  rw [he] at hck hgi
  simp only at hgi
  refine tq (cj9 f1 f3 @i64.eq_1 q1 hml hgi hx h00 hil) ?_; intro Nx hNx Gx hGx
  intro c4 hc4
  refine hNx _ ?_
  have hc40 : H c4 = none := by
    cases e : H c4 with
    | none => rfl
    | some y => rw [hle c4 y e] at hc4; cases hc4
  have hle4 := Heap.le_put (x := .row 107 0 2 [[i64 k, i64 f]]) hle hc40
  have z4 : (s.H.upd c4 (.row 107 0 2 [[i64 k, i64 f]])) c4 = some (.row 107 0 2 [[i64 k, i64 f]]) := Heap.upd_same _ _ _
  have hk2 : chkJ (k, f) = if k ≠ 0 ∧ k ≠ 1 then 14 else if k = 0 ∧ f ≠ 0 then 2 else if f < 0 then 3 else 0 := rfl
  rcases tfB (k = 0) with ⟨_, k0, ⟨rfl, h0⟩ | ⟨rfl, h0⟩⟩
  · rcases tfB (f = 0) with ⟨_, f0, ⟨rfl, h1⟩ | ⟨rfl, h1⟩⟩
    · have f7 : (f < 0) = False := eq_false (by omega)
      rw [if_neg (fun h => h.1 h0), if_neg (fun h => h.2 h1), if_neg (by omega)] at hk2
      rw [if_neg (fun h => h hk2)] at hck
      refine tq (cj8 f1 f3 @i64.eq_1 w3 k0 z4 f0 f7) ?_; intro Nx hNx Gx hGx; exact ⟨hil, hdf, f1, rfl, hle4, hck⟩
    · rw [if_neg (fun h => h.1 h0), if_pos ⟨h0, h1⟩] at hk2
      rw [if_pos (by rw [hk2]; decide), hk2] at hck
      refine tq (cj7 f1 f3 @i64.eq_1 w3 k0 z4 f0) ?_; intro Nx hNx Gx hGx; refine rt hret hdf ?_; exact ⟨_, Heap.le_refl _, hle4, _, frz_refl hle4, by rw [hck]; rfl⟩
  rcases tfB (k = 1) with ⟨_, k1, ⟨rfl, h2⟩ | ⟨rfl, h2⟩⟩
  case inr =>
    rw [if_pos ⟨h0, h2⟩] at hk2
    rw [if_pos (by rw [hk2]; decide), hk2] at hck
    refine tq (cj7 f1 f3 @i64.eq_1 w3 k0 z4 k1) ?_; intro Nx hNx Gx hGx; refine rt hret hdf ?_; exact ⟨_, Heap.le_refl _, hle4, _, frz_refl hle4, by rw [hck]; rfl⟩
  rcases tfB (f < 0) with ⟨_, f7, ⟨rfl, h1⟩ | ⟨rfl, h1⟩⟩
  · rw [if_neg (fun h => h.2 h2), if_neg (fun h => h0 h.1), if_pos h1] at hk2
    rw [if_pos (by rw [hk2]; decide), hk2] at hck
    refine tq (cj8 f1 f3 @i64.eq_1 w3 k0 z4 k1 f7) ?_; intro Nx hNx Gx hGx; refine rt hret hdf ?_; exact ⟨_, Heap.le_refl _, hle4, _, frz_refl hle4, by rw [hck]; rfl⟩
  · rw [if_neg (fun h => h.2 h2), if_neg (fun h => h0 h.1), if_neg h1] at hk2
    rw [if_neg (fun h => h hk2)] at hck
    refine tq (cj8 f1 f3 @i64.eq_1 w3 k0 z4 k1 f7) ?_; intro Nx hNx Gx hGx; exact ⟨hil, hdf, f1, rfl, hle4, hck⟩
theorem chkPr_app : ∀ (l m : List (Int × Int)), chkPr (l ++ m) = 0 → chkPr l = 0 ∧ chkPr m = 0
  | [], m, h => ⟨rfl, h⟩
  | x :: l, m, h => by
    simp only [List.cons_append, chkPr] at h ⊢
    by_cases h1 : chkJ x ≠ 0
    · rw [if_pos h1] at h; exact absurd h h1
    · rw [if_neg h1] at h ⊢
      exact chkPr_app l m h
theorem chkP_app {a : Int} {l m : List (Int × Int)} (h : chkP ⟨a, l ++ m⟩ = 0) : chkP ⟨a, l⟩ = 0 := by
  obtain ⟨h1, h2, h3⟩ := chkP_lo h
  simp only [List.length_append] at h1 h2
  have h4 := (chkPr_app l m h3).1
  unfold chkP
  rw [if_neg (by simp only; omega), if_neg (by simp only; omega)]
  exact h4
theorem typeOf_snoc {ts : List TyS} {lc : List LcS} {a : Int} {l : List (Int × Int)} {x : Int × Int} (h : chkP ⟨a, l ++ [x]⟩ = 0) (h2 : a < lc.length) :
    typeOfP ts lc ⟨a, l ++ [x]⟩ = if (typeOfP ts lc ⟨a, l⟩).2 ≠ 0 then (0, (typeOfP ts lc ⟨a, l⟩).2) else prjP ts (typeOfP ts lc ⟨a, l⟩).1 x := by
  have h3 := chkP_app h
  have e1 : typeOfP ts lc ⟨a, l ++ [x]⟩ = tyP ts (lcAt lc a).ty (l ++ [x]) := by
    unfold typeOfP; rw [if_neg (fun k => k h), if_neg (by simp only; omega)]
  have e2 : typeOfP ts lc ⟨a, l⟩ = tyP ts (lcAt lc a).ty l := by
    unfold typeOfP; rw [if_neg (fun k => k h3), if_neg (by simp only; omega)]
  rw [e1, e2]
  by_cases h4 : (tyP ts (lcAt lc a).ty l).2 = 0
  · rw [if_neg (fun k => k h4), tyP_snoc_o h4]
  · rw [if_pos h4, tyP_snoc_e h4]
    have := tyP_err _ _ h4
    rw [← this]
set_option maxHeartbeats 2000000 in
theorem ktypeOf_N (ts : List TyS) (lc : List LcS) (hw : wfT ts) (hl : wfL ts lc) (ha : arN ts) : ∀ (n : Nat) (p : PlS) (H : Heap), p.pr.length = n → big p.pr.length → Does Tryz.prog 66 [.seq 5 (ts.map tyD), .seq 2 (lc.map lcD), .agg (plD p)] H fun d H' => d = .tup [i64 (typeOfP ts lc p).1, i64 (typeOfP ts lc p).2] ∧ H = H' := by
  have hmc : (List.map lcD lc).length = lc.length := List.length_map _
  have hmt : (List.map tyD ts).length = ts.length := List.length_map _
  intro n
  induction n with
  | zero =>
    rintro ⟨a, l⟩ H hn hp
    have hl0 : l = [] := List.eq_nil_of_length_eq_zero hn
    subst hl0
    refine Does.frz (K := fun d => d = .tup [i64 (typeOfP ts lc ⟨a, []⟩).1, i64 (typeOfP ts lc ⟨a, []⟩).2]) ?_
    have hle9 := Heap.le_refl H
    have hck := kpcheck_N ⟨a, []⟩ H hp
    obtain ⟨y, hy⟩ : ∃ y, y = typeOfP ts lc ⟨a, []⟩ := ⟨_, rfl⟩
    rw [← hy]
    simp only [plD, List.map_nil] at hck
    refine does_of _ _ Tryz.func66 rfl rfl Tryz.ntmps66 Tryz.results66 (by simp only [List.length_cons, List.length_nil]; omega) fun w0 g0 Q hret => ?_
    refine tq (cj2 @i64.eq_1 @plD.eq_1) ?_; intro Nx hNx Gx hGx
    intro c5 hc5
    refine hNx _ ?_
    refine frz 5 hc5 ?_
    refine tq @i64.eq_1 ?_; intro Nx hNx Gx hGx
    refine hck.mono ?_
    rintro d _ ⟨rfl, rfl⟩
    by_cases h1 : chkP ⟨a, []⟩ = 0
    case neg =>
      have q1 : (chkP ⟨a, []⟩ = 0) = False := eq_false h1
      have e : y = (0, chkP ⟨a, []⟩) := hy.trans (if_pos h1)
      refine tq (cj2 @i64.eq_1 q1) ?_; intro Nx hNx Gx hGx; refine rt hret @i64.eq_1 ?_; exact ⟨_, Heap.le_refl _, hle9, _, frz_refl hle9, by rw [e]⟩
    have q1 : (chkP ⟨a, []⟩ = 0) = True := eq_true h1
    by_cases h2 : (lc.length : Int) ≤ a
    · have q2 : (a ≥ (lc.length : Int)) = True := eq_true h2
      have e : y = (0, 3) := hy.trans (by unfold typeOfP; rw [if_neg (fun k => k h1)]; exact if_pos h2)
      refine tq (cj4 @i64.eq_1 q1 q2 hmc) ?_; intro Nx hNx Gx hGx; refine rt hret @i64.eq_1 ?_; exact ⟨_, Heap.le_refl _, hle9, _, frz_refl hle9, by rw [e]⟩
    have q2 : (a ≥ (lc.length : Int)) = False := eq_false h2
    have hin : 0 ≤ a ∧ a < lc.length := ⟨(chkP_lo h1).1, by omega⟩
    have h00 := hin.1
    have hil : a.toNat < lc.length := by omega
    have hgl := get_lcs hin
    simp only [lcD] at hgl
    have e : y = ((lcAt lc a).ty, 0) := hy.trans (by unfold typeOfP; rw [if_neg (fun k => k h1), if_neg h2]; rfl)
    refine tq (cj7 @i64.eq_1 q1 q2 hmc hgl hil h00) ?_; intro Nx hNx Gx hGx; refine rt hret @i64.eq_1 ?_; exact ⟨_, Heap.le_refl _, hle9, _, frz_refl hle9, by rw [e]⟩
  | succ n ih =>
    rintro ⟨a, l0⟩ H hn hp
    obtain ⟨l, x, rfl⟩ : ∃ l x, l0 = l ++ [x] := by
      rcases List.eq_nil_or_concat l0 with h | ⟨l, x, h⟩
      · subst h; cases hn
      · exact ⟨l, x, by rw [h, List.concat_eq_append]⟩
    have hll : l.length = n := by simpa using hn
    refine Does.frz (K := fun d => d = .tup [i64 (typeOfP ts lc ⟨a, l ++ [x]⟩).1, i64 (typeOfP ts lc ⟨a, l ++ [x]⟩).2]) ?_
    have hle9 := Heap.le_refl H
    have hck := kpcheck_N ⟨a, l ++ [x]⟩ H hp
    obtain ⟨y, hy⟩ : ∃ y, y = typeOfP ts lc ⟨a, l ++ [x]⟩ := ⟨_, rfl⟩
    rw [← hy]
    obtain ⟨L, hL⟩ : ∃ L, L = (l ++ [x]).map pD := ⟨_, rfl⟩
    have hLl : L.length = l.length + 1 := by rw [hL]; simp
    have hLt : L.take l.length = l.map pD := by rw [hL, List.map_append, ← List.length_map pD, List.take_left]
    have hLg : L[l.length]? = some (pD x) := by rw [hL, List.map_append]; simp
    simp only [plD] at hck
    rw [← hL] at hck
    refine does_of _ _ Tryz.func66 rfl rfl Tryz.ntmps66 Tryz.results66 (by simp only [List.length_cons, List.length_nil]; omega) fun w0 g0 Q hret => ?_
    simp only [plD]
    rw [← hL]
    have hsm : l.length ≤ 140737488351232 := by unfold big at hp; simp only [List.length_append, List.length_singleton] at hp; omega
    obtain ⟨m, hm⟩ : ∃ m, m = chkP ⟨a, l ++ [x]⟩ := ⟨_, rfl⟩
    rw [← hm] at hck
    refine tq @i64.eq_1 ?_; intro Nx hNx Gx hGx
    intro c5 hc5
    refine hNx _ ?_
    refine frz 5 hc5 ?_
    refine tq @i64.eq_1 ?_; intro Nx hNx Gx hGx
    refine hck.mono ?_
    rintro d _ ⟨rfl, rfl⟩
    by_cases h1 : m = 0
    case neg =>
      have q1 : (m = 0) = False := eq_false h1
      have e : y = (0, m) := hy.trans (by rw [hm] at h1 ⊢; exact if_pos h1)
      refine tq (cj2 @i64.eq_1 q1) ?_; intro Nx hNx Gx hGx; refine rt hret @i64.eq_1 ?_; exact ⟨_, Heap.le_refl _, hle9, _, frz_refl hle9, by rw [e]⟩
    have q1 : (m = 0) = True := eq_true h1
    by_cases h2 : (lc.length : Int) ≤ a
    · have q2 : (a ≥ (lc.length : Int)) = True := eq_true h2
      have e : y = (0, 3) := hy.trans (by unfold typeOfP; rw [if_neg (fun k => k (hm.symm.trans h1))]; exact if_pos h2)
      refine tq (cj4 @i64.eq_1 q1 q2 hmc) ?_; intro Nx hNx Gx hGx; refine rt hret @i64.eq_1 ?_; exact ⟨_, Heap.le_refl _, hle9, _, frz_refl hle9, by rw [e]⟩
    have q2 : (a ≥ (lc.length : Int)) = False := eq_false h2
    have hc0 : chkP ⟨a, l ++ [x]⟩ = 0 := hm.symm.trans h1
    have hys := hy.trans (typeOf_snoc (ts := ts) hc0 (by omega))
    have hin : 0 ≤ a ∧ a < lc.length := ⟨(chkP_lo hc0).1, by omega⟩
    have hxf : 0 ≤ x.2 := (chkPr_nn (chkP_lo hc0).2.2 x (by simp)).2
    have q3 : (((l.length + 1 : Nat) : Int) = 0) = False := eq_false (by omega)
    have w3 : IntKind.i64.wrap (((l.length + 1 : Nat) : Int) - 1) = (l.length : Int) := by rw [wrap_i64_of (by omega)]; omega
    have hx : (l.length : Int).toNat = l.length := Int.toNat_natCast _
    have h00 : (0 : Int) ≤ (l.length : Int) := Int.natCast_nonneg _
    have hlL : l.length ≤ L.length := by omega
    have hbl : big (⟨a, l⟩ : PlS).pr.length := by unfold big; show l.length ≤ _; omega
    have hcall : ∀ H1, CallOK Tryz.prog 66 [.seq 5 (ts.map tyD), .seq 2 (lc.map lcD), .agg [i64 a, .seq 2 (l.map pD)]] H1 fun d A => A = Heap.none ∧ d = .tup [i64 (typeOfP ts lc ⟨a, l⟩).1, i64 (typeOfP ts lc ⟨a, l⟩).2] := fun H1 => callOK_eq fun H'' hle'' => ih ⟨a, l⟩ H'' hll hbl
    obtain ⟨z, hz⟩ : ∃ z, z = typeOfP ts lc ⟨a, l⟩ := ⟨_, rfl⟩
    have hzi : z.2 = 0 → InR ts.length z.1 := fun h => by rw [hz] at h ⊢; exact typeOf_in hw hl h
    rw [← hz] at hcall hys
    refine tq (cj6 @i64.eq_1 q1 q2 hmc hLl q3) ?_; intro Nx hNx Gx hGx
    refine W_drawE (fun _ _ d A => A = .none ∧ d = .tup [i64 z.1, i64 z.2]) (by kernel_rfl) (by kernel_rfl) (by kernel_rfl) fun Nx hNx => ?_; refine dst (cj7 @i64.eq_1 w3 hx h00 hLt hLl hlL) ?_; intro Nx hNx Gx hGx
    refine ⟨by omega, hcall _, ?_⟩
    refine dst @i64.eq_1 ?_; intro Nx hNx Gx hGx
    by_cases h5 : z.2 = 0
    case neg =>
      have q5 : (z.2 = 0) = False := eq_false h5
      have e : y = (0, z.2) := hys.trans (if_pos h5)
      refine tq (cj2 @i64.eq_1 q5) ?_; intro Nx hNx Gx hGx; refine rt hret @i64.eq_1 ?_; exact ⟨_, Heap.le_refl _, hle9, _, frz_refl hle9, by rw [e]⟩
    have q5 : (z.2 = 0) = True := eq_true h5
    rw [if_neg (fun k => k h5)] at hys
    have hzn := hzi h5
    have hgt := ty_get hzn
    have hti : z.1.toNat < ts.length := by unfold InR at hzn; omega
    have ht0 : 0 ≤ z.1 := by unfold InR at hzn; omega
    have hpp : prjP ts z.1 x = if x.1 = 0 ∧ (tyAt ts z.1).k = 3 then ((tyAt ts z.1).e, 0) else if x.1 = 1 ∧ (tyAt ts z.1).k = 4 then (if x.2 < (tyAt ts z.1).ar.length then ((tyAt ts z.1).ar.getD x.2.toNat 0, 0) else (0, 3)) else (0, 22) := rfl
    rw [hpp] at hys
    obtain ⟨t, ht⟩ : ∃ t, t = tyAt ts z.1 := ⟨_, rfl⟩
    rw [← ht] at hgt hys
    have hta : t.ar.length ≤ 1000000 := by rw [ht]; exact ha _ (tyAt_in hzn)
    clear hpp ht hcall hzi
    obtain ⟨tk, tm, tr, te, ta⟩ := t
    obtain ⟨k, f⟩ := x
    simp only [tyD] at hgt
    simp only [pD] at hLg
    simp only at hta hys hxf
    have hla : (List.map iD ta).length = ta.length := List.length_map _
    have hlL2 : l.length < L.length := by omega
    refine tq (cj6 @i64.eq_1 q5 hgt hti ht0 hmt) ?_; intro Nx hNx Gx hGx
    intro c11 hc11
    refine hNx _ ?_
    refine frz 11 hc11 ?_
    refine tq (cj7 @i64.eq_1 w3 hLg hx h00 hLl hlL2) ?_; intro Nx hNx Gx hGx
    intro c12 hc12
    refine hNx _ ?_
    refine frz 12 hc12 ?_
    rcases tfB (k = 0) with ⟨_, k0, ⟨rfl, h0⟩ | ⟨rfl, h0⟩⟩
    · have k1 : (k = 1) = False := eq_false (by omega)
      rcases tfB (tk = 3) with ⟨_, q7, ⟨rfl, h3⟩ | ⟨rfl, h3⟩⟩
      · have e : y = (te, 0) := hys.trans (if_pos ⟨h0, h3⟩)
        refine tq (cj3 @i64.eq_1 k0 q7) ?_; intro Nx hNx Gx hGx; refine rt hret @i64.eq_1 ?_; exact ⟨_, Heap.le_refl _, hle9, _, frz_refl hle9, by rw [e]⟩
      · have e : y = (0, 22) := hys.trans (by rw [if_neg (fun h => h3 h.2), if_neg (fun h => by omega)])
        refine tq (cj4 @i64.eq_1 k0 q7 k1) ?_; intro Nx hNx Gx hGx; refine rt hret @i64.eq_1 ?_; exact ⟨_, Heap.le_refl _, hle9, _, frz_refl hle9, by rw [e]⟩
    rcases tfB (k = 1) with ⟨_, k1, ⟨rfl, h1⟩ | ⟨rfl, h1⟩⟩
    case inr =>
      have e : y = (0, 22) := hys.trans (by rw [if_neg (fun h => h0 h.1), if_neg (fun h => h1 h.1)])
      refine tq (cj3 @i64.eq_1 k0 k1) ?_; intro Nx hNx Gx hGx; refine rt hret @i64.eq_1 ?_; exact ⟨_, Heap.le_refl _, hle9, _, frz_refl hle9, by rw [e]⟩
    rcases tfB (tk = 4) with ⟨_, q8, ⟨rfl, h4⟩ | ⟨rfl, h4⟩⟩
    case inr =>
      have e : y = (0, 22) := hys.trans (by rw [if_neg (fun h => h0 h.1), if_neg (fun h => h4 h.2)])
      refine tq (cj4 @i64.eq_1 k0 k1 q8) ?_; intro Nx hNx Gx hGx; refine rt hret @i64.eq_1 ?_; exact ⟨_, Heap.le_refl _, hle9, _, frz_refl hle9, by rw [e]⟩
    rw [if_neg (fun h => h0 h.1), if_pos ⟨h1, h4⟩] at hys
    by_cases h6 : f < (ta.length : Int)
    · have q9 : (f ≥ (ta.length : Int)) = False := eq_false (by omega)
      have hfl : f.toNat < ta.length := by omega
      have hgf : (ta.map iD)[f.toNat]? = some [i64 ta[f.toNat]] := get_ints hfl
      have e : y = (ta[f.toNat], 0) := hys.trans (by rw [if_pos h6, List.getD_eq_getElem?_getD, List.getElem?_eq_getElem hfl]; rfl)
      refine tq (cj9 @i64.eq_1 k0 k1 q8 q9 hgf hxf hfl hla) ?_; intro Nx hNx Gx hGx; refine rt hret @i64.eq_1 ?_; exact ⟨_, Heap.le_refl _, hle9, _, frz_refl hle9, by rw [e]⟩
    · have q9 : (f ≥ (ta.length : Int)) = True := eq_true (by omega)
      have e : y = (0, 3) := hys.trans (if_neg h6)
      refine tq (cj6 @i64.eq_1 k0 k1 q8 q9 hla) ?_; intro Nx hNx Gx hGx; refine rt hret @i64.eq_1 ?_; exact ⟨_, Heap.le_refl _, hle9, _, frz_refl hle9, by rw [e]⟩
theorem tyP_pre {ts : List TyS} {m : List (Int × Int)} : ∀ {l : List (Int × Int)} {i : Int}, (tyP ts i (l ++ m)).2 = 0 → (tyP ts i l).2 = 0
  | [], i, _ => rfl
  | y :: l, i, h => by
    rw [List.cons_append] at h
    by_cases h1 : (prjP ts i y).2 = 0
    · rw [tyP_o h1] at h ⊢; exact tyP_pre h
    · rw [tyP_e h1] at h; exact absurd h h1
theorem refP_snoc {ts : List TyS} {x : Int × Int} : ∀ {l : List (Int × Int)} {i : Int}, (tyP ts i l).2 = 0 → refP ts i (l ++ [x]) = refP ts i l ++ (if x.1 = 0 then [tyAt ts (tyP ts i l).1] else [])
  | [], i, _ => by simp [refP, tyP]
  | y :: l, i, h => by
    have h1 : (prjP ts i y).2 = 0 := Classical.byContradiction fun h1 => by rw [tyP_e h1] at h; exact h1 h
    rw [tyP_o h1] at h ⊢
    simp only [List.cons_append, refP]
    rw [refP_snoc h, List.append_assoc]
theorem typeOf_pre {ts : List TyS} {lc : List LcS} {p : PlS} (h : (typeOfP ts lc p).2 = 0) (i : Nat) : typeOfP ts lc ⟨p.lo, p.pr.take i⟩ = tyP ts (lcAt lc p.lo).ty (p.pr.take i) ∧ (tyP ts (lcAt lc p.lo).ty (p.pr.take i)).2 = 0 := by
  obtain ⟨h1, h2, h3⟩ := typeOf_ok h
  obtain ⟨a, l⟩ := p
  have h4 : chkP ⟨a, l.take i ++ l.drop i⟩ = 0 := by rw [List.take_append_drop]; exact h1
  have h5 := chkP_app h4
  refine ⟨?_, tyP_pre (m := l.drop i) ?_⟩
  · unfold typeOfP
    simp only at h2 ⊢
    rw [if_neg (fun k => k h5), if_neg (by omega)]
  · rw [List.take_append_drop, ← h3]; exact h
set_option maxHeartbeats 1000000 in
theorem krefs_N (ts : List TyS) (lc : List LcS) (p : PlS) (H : Heap) (hw : wfT ts) (hl : wfL ts lc) (ha : arN ts) (hp : big p.pr.length) (hok : (typeOfP ts lc p).2 = 0) : Does Tryz.prog 90 [.seq 5 (ts.map tyD), .seq 2 (lc.map lcD), .agg (plD p)] H fun d H' => d = .seq 5 ((refsP ts lc p).map tyD) ∧ H = H' := by
  refine Does.frz (K := fun d => d = .seq 5 ((refsP ts lc p).map tyD)) ?_
  have hrp : refsP ts lc p = refP ts (lcAt lc p.lo).ty p.pr := if_neg fun h => h hok
  obtain ⟨ty, hty⟩ : ∃ ty, ty = (lcAt lc p.lo).ty := ⟨_, rfl⟩
  rw [hrp, ← hty]
  have hpre := fun i => typeOf_pre hok i
  rw [← hty] at hpre
  have htin : InR ts.length ty := by rw [hty]; exact lcAt_in hl (typeOf_ok hok).2.1
  have hpl := (chkP_lo (typeOf_ok hok).1).2.1
  have hml : (List.map pD p.pr).length = p.pr.length := List.length_map _
  have hmt : (List.map tyD ts).length = ts.length := List.length_map _
  refine does_of _ _ Tryz.func90 rfl rfl Tryz.ntmps90 Tryz.results90 (by simp only [List.length_cons, List.length_nil]; omega) fun w0 g0 Q hret => ?_
  refine tq (cj2 @i64.eq_1 @plD.eq_1) ?_; intro Nx hNx Gx hGx
  intro c5 hc5
  refine hNx _ ?_
  refine frz 5 hc5 ?_
  refine tq @i64.eq_1 ?_; intro Nx hNx Gx hGx
  refine W_loopN p.pr.length (fun i s => s.df = [] ∧ s.fr 0 = .seq 5 (ts.map tyD) ∧ s.fr 1 = .seq 2 (lc.map lcD) ∧ s.fr 5 = .rp [i64 p.lo, .seq 2 (p.pr.map pD)] ∧ s.fr 8 = i64 i ∧ H.le s.H ∧ ∃ ob, Gl H 62 5 ((refP ts ty (p.pr.take i)).map tyD) (s.fr 7) s.H ob) ⟨rfl, rfl, rfl, rfl, rfl, Heap.le_refl _, none, Gl.nil _ _ _ _⟩ ?_
  rintro i s hi ⟨hdf, f0, f1, f5, f8, hle, ob, hg⟩
  have hx : (i : Int).toNat = i := Int.toNat_natCast _
  have h00 : (0 : Int) ≤ (i : Int) := Int.natCast_nonneg _
  by_cases hil : i < p.pr.length
  case neg =>
    have q6 : ((i : Int) < (p.pr.length : Int)) = False := eq_false (by omega)
    rw [List.take_of_length_le (by omega)] at hg
    refine tq (cj5 f5 f8 @i64.eq_1 q6 hml) ?_; intro Nx hNx Gx hGx
    refine rt hret hdf ?_
    exact ⟨_, Heap.le_refl _, hle, _, frz_gl hle hg, rfl⟩
  have q6 : ((i : Int) < (p.pr.length : Int)) = True := eq_true (by omega)
  have w3 : IntKind.i64.wrap ((i : Int) + 1) = ((i + 1 : Nat) : Int) := by rw [wrap_i64_of (by omega)]; omega
  have hgi := get_prs hil
  obtain ⟨e1, e2⟩ := hpre i
  have hsn : refP ts ty (p.pr.take (i + 1)) = refP ts ty (p.pr.take i) ++ (if p.pr[i].1 = 0 then [tyAt ts (tyP ts ty (p.pr.take i)).1] else []) := by
    rw [List.take_succ_eq_append_getElem hil]
    exact refP_snoc e2
  by_cases h0 : p.pr[i].1 = 0
  case neg =>
    have q7 : (p.pr[i].1 = 0) = False := eq_false h0
    rw [if_neg h0, List.append_nil] at hsn
    rw [← hsn] at hg
    refine tq (cj11 f5 f8 @i64.eq_1 q6 hml hgi hx h00 hil q7 w3) ?_; intro Nx hNx Gx hGx
    exact ⟨hil, hdf, f0, f1, f5, rfl, hle, ob, hg⟩
  have q7 : (p.pr[i].1 = 0) = True := eq_true h0
  rw [if_pos h0] at hsn
  have hin : InR ts.length (tyP ts ty (p.pr.take i)).1 := tyP_in hw _ _ htin e2
  have hbt : big (⟨p.lo, p.pr.take i⟩ : PlS).pr.length := by unfold big; show (p.pr.take i).length ≤ _; rw [List.length_take]; omega
  have hcall : ∀ H1, CallOK Tryz.prog 66 [.seq 5 (ts.map tyD), .seq 2 (lc.map lcD), .agg [i64 p.lo, .seq 2 ((p.pr.take i).map pD)]] H1 fun d A => A = Heap.none ∧ d = .tup [i64 (typeOfP ts lc ⟨p.lo, p.pr.take i⟩).1, i64 (typeOfP ts lc ⟨p.lo, p.pr.take i⟩).2] := fun H1 => callOK_eq fun H'' hle'' => ktypeOf_N ts lc hw hl ha _ ⟨p.lo, p.pr.take i⟩ H'' rfl hbt
  rw [e1, e2] at hcall
  obtain ⟨z, hz⟩ : ∃ z, z = (tyP ts ty (p.pr.take i)).1 := ⟨_, rfl⟩
  rw [← hz] at hcall hin hsn
  have hgt := ty_get hin
  have hti : z.toNat < ts.length := by unfold InR at hin; omega
  have ht0 : 0 ≤ z := by unfold InR at hin; omega
  obtain ⟨t, ht⟩ : ∃ t, t = tyAt ts z := ⟨_, rfl⟩
  rw [← ht] at hgt hsn
  have hrl := refP_len ts (p.pr.take i) ty
  rw [List.length_take] at hrl
  obtain ⟨els, hels⟩ : ∃ els, els = (refP ts ty (p.pr.take i)).map tyD := ⟨_, rfl⟩
  have hell : els.length ≤ 33 := by rw [hels, List.length_map]; omega
  have hsn2 : (refP ts ty (p.pr.take (i + 1))).map tyD = els ++ [tyD t] := by rw [hsn, List.map_append, hels]; rfl
  rw [← hels] at hg
  clear hels hsn
  have hlt : i ≤ p.pr.length := by omega
  have hmk : List.take i (List.map pD p.pr) = (p.pr.take i).map pD := by rw [List.map_take]
  simp only [tyD] at hgt
  refine tq (cj10 f5 f8 @i64.eq_1 q6 hml hgi hx h00 hil q7) ?_; intro Nx hNx Gx hGx
  refine W_drawE (fun _ _ d A => A = .none ∧ d = .tup [i64 z, i64 0]) (by kernel_rfl) (by kernel_rfl) (by kernel_rfl) fun Nx hNx => ?_; refine dst (cj10 f0 f1 f5 f8 @i64.eq_1 hx h00 hml hmk hlt) ?_; intro Nx hNx Gx hGx
  refine ⟨by omega, hcall _, ?_⟩
  refine dst (cj5 f0 f1 f5 f8 @i64.eq_1) ?_; intro Nx hNx Gx hGx
  refine tq (cj6 f0 @i64.eq_1 hgt hti ht0 hmt) ?_; intro Nx hNx Gx hGx
  refine apV_grow (e := 62) ty24 rfl ty24 rfl ty62 rfl (by decide) hle hg (new := [tyD t]) (by exact ⟨rfl, rfl⟩) (by show (_ + 1) * 56 ≤ _; omega) fun d H6 ob6 hg6 hle6 hp6 => ?_
  rw [← hsn2] at hg6
  refine tq (cj3 f8 @i64.eq_1 w3) ?_; intro Nx hNx Gx hGx
  exact ⟨hil, hdf, f0, f1, f5, rfl, hle6, ob6, hg6⟩
set_option maxHeartbeats 1000000 in
theorem kmut_N (ts : List TyS) (lc : List LcS) (p : PlS) (H : Heap) (hw : wfT ts) (hl : wfL ts lc) (ha : arN ts) (hp : big p.pr.length) : Does Tryz.prog 67 [.seq 5 (ts.map tyD), .seq 2 (lc.map lcD), .agg (plD p)] H fun d H' => d = .val (.bool (mutP ts lc p)) ∧ H = H' := by
  refine Does.frz (K := fun d => d = .val (.bool (mutP ts lc p))) ?_
  have hle := Heap.le_refl H
  have hty := ktypeOf_N ts lc hw hl ha _ p H rfl hp
  have hrl := refsP_len ts lc p
  have hkr := krefs_N ts lc p H hw hl ha hp
  simp only [plD] at hty hkr
  refine does_of _ _ Tryz.func67 rfl rfl Tryz.ntmps67 Tryz.results67 (by simp only [List.length_cons, List.length_nil]; omega) fun w0 g0 Q hret => ?_
  refine tq (cj2 @i64.eq_1 @plD.eq_1) ?_; intro Nx hNx Gx hGx
  intro c5 hc5
  refine hNx _ ?_
  refine frz 5 hc5 ?_
  refine tq @i64.eq_1 ?_; intro Nx hNx Gx hGx
  refine hty.mono ?_
  rintro d _ ⟨rfl, rfl⟩
  by_cases h0 : (typeOfP ts lc p).2 = 0
  case neg =>
    have q1 : ((typeOfP ts lc p).2 = 0) = False := eq_false h0
    have hres : mutP ts lc p = false := by unfold mutP; rw [decide_eq_false h0, Bool.false_and]
    refine tq (cj2 @i64.eq_1 q1) ?_; intro Nx hNx Gx hGx
    refine rt hret @i64.eq_1 ?_
    exact ⟨_, Heap.le_refl _, hle, _, frz_refl hle, by rw [hres]⟩
  have q1 : ((typeOfP ts lc p).2 = 0) = True := eq_true h0
  have hkr := hkr h0
  have hres : mutP ts lc p = (refsP ts lc p).all (·.m) := by unfold mutP; rw [decide_eq_true h0, Bool.true_and]
  obtain ⟨l, hL⟩ : ∃ l, l = refsP ts lc p := ⟨_, rfl⟩
  rw [← hL] at hrl hkr hres
  have hml : (List.map tyD l).length = l.length := List.length_map _
  refine tq (cj2 @i64.eq_1 q1) ?_; intro Nx hNx Gx hGx
  refine hkr.mono ?_
  rintro d _ ⟨rfl, rfl⟩
  refine tq @i64.eq_1 ?_; intro Nx hNx Gx hGx
  refine W_loopN l.length (fun i s => s.df = [] ∧ s.fr 9 = .seq 5 (l.map tyD) ∧ s.fr 10 = i64 i ∧ s.H = H ∧ l.all (·.m) = (l.drop i).all (·.m)) ⟨rfl, rfl, rfl, rfl, rfl⟩ ?_
  rintro i s hi ⟨hdf, f9, f10, hH, hal⟩
  have hx : (i : Int).toNat = i := Int.toNat_natCast _
  have h00 : (0 : Int) ≤ (i : Int) := Int.natCast_nonneg _
  have hleS : H.le s.H := by rw [hH]; exact Heap.le_refl _
  by_cases hil : i < l.length
  case neg =>
    have q6 : ((i : Int) < (l.length : Int)) = False := eq_false (by omega)
    rw [List.drop_eq_nil_of_le (by omega)] at hal
    refine tq (cj5 f9 f10 @i64.eq_1 q6 hml) ?_; intro Nx hNx Gx hGx
    refine rt hret hdf ?_
    exact ⟨_, Heap.le_refl _, hleS, _, frz_refl hleS, by rw [hres, hal]; rfl⟩
  have q6 : ((i : Int) < (l.length : Int)) = True := eq_true (by omega)
  have w3 : IntKind.i64.wrap ((i : Int) + 1) = ((i + 1 : Nat) : Int) := by rw [wrap_i64_of (by omega)]; omega
  have hgi : (l.map tyD)[i]? = some (tyD l[i]) := by rw [List.getElem?_map, List.getElem?_eq_getElem hil]; rfl
  rw [List.drop_eq_getElem_cons hil, List.all_cons] at hal
  obtain ⟨u, hu⟩ : ∃ u, u = l[i] := ⟨_, rfl⟩
  rw [← hu] at hgi hal
  clear hu
  obtain ⟨uk, um, ur, ue, ua⟩ := u
  simp only [tyD] at hgi
  simp only at hal
  cases um
  · rw [Bool.false_and] at hal
    refine tq (cj9 f9 f10 @i64.eq_1 q6 hml hgi hx h00 hil) ?_; intro Nx hNx Gx hGx
    refine rt hret hdf ?_
    exact ⟨_, Heap.le_refl _, hleS, _, frz_refl hleS, by rw [hres, hal]⟩
  · rw [Bool.true_and] at hal
    refine tq (cj10 f9 f10 @i64.eq_1 q6 hml hgi hx h00 hil w3) ?_; intro Nx hNx Gx hGx
    exact ⟨hil, hdf, f9, rfl, hH, hal⟩
set_option maxHeartbeats 1000000 in
theorem kregs_N (ts : List TyS) (lc : List LcS) (p : PlS) (H : Heap) (hw : wfT ts) (hl : wfL ts lc) (ha : arN ts) (hp : big p.pr.length) : Does Tryz.prog 91 [.seq 5 (ts.map tyD), .seq 2 (lc.map lcD), .agg (plD p)] H fun d H' => d = .seq 1 ((regP ts lc p).map iD) ∧ H = H' := by
  refine Does.frz (K := fun d => d = .seq 1 ((regP ts lc p).map iD)) ?_
  have hle := Heap.le_refl H
  have hty := ktypeOf_N ts lc hw hl ha _ p H rfl hp
  have hrl := refsP_len ts lc p
  have hkr := krefs_N ts lc p H hw hl ha hp
  have hrg : regP ts lc p = (refsP ts lc p).map (·.r) := rfl
  rw [hrg]
  simp only [plD] at hty hkr
  refine does_of _ _ Tryz.func91 rfl rfl Tryz.ntmps91 Tryz.results91 (by simp only [List.length_cons, List.length_nil]; omega) fun w0 g0 Q hret => ?_
  refine tq (cj2 @i64.eq_1 @plD.eq_1) ?_; intro Nx hNx Gx hGx
  intro c5 hc5
  refine hNx _ ?_
  refine frz 5 hc5 ?_
  refine tq @i64.eq_1 ?_; intro Nx hNx Gx hGx
  refine hty.mono ?_
  rintro d _ ⟨rfl, rfl⟩
  by_cases h0 : (typeOfP ts lc p).2 = 0
  case neg =>
    have q1 : ((typeOfP ts lc p).2 = 0) = False := eq_false h0
    have hres : refsP ts lc p = [] := if_pos h0
    refine tq (cj2 @i64.eq_1 q1) ?_; intro Nx hNx Gx hGx
    refine rt hret @i64.eq_1 ?_
    exact ⟨_, Heap.le_refl _, hle, _, frz_nil, by rw [hres]; rfl⟩
  have q1 : ((typeOfP ts lc p).2 = 0) = True := eq_true h0
  have hkr := hkr h0
  obtain ⟨l, hL⟩ : ∃ l, l = refsP ts lc p := ⟨_, rfl⟩
  rw [← hL] at hrl hkr hret
  have hml : (List.map tyD l).length = l.length := List.length_map _
  refine tq (cj2 @i64.eq_1 q1) ?_; intro Nx hNx Gx hGx
  refine hkr.mono ?_
  rintro d _ ⟨rfl, rfl⟩
  refine tq @i64.eq_1 ?_; intro Nx hNx Gx hGx
  refine W_loopN l.length (fun i s => s.df = [] ∧ s.fr 10 = .seq 5 (l.map tyD) ∧ s.fr 11 = i64 i ∧ H.le s.H ∧ ∃ ob, Gl H 3 1 (((l.take i).map (·.r)).map iD) (s.fr 7) s.H ob) ⟨rfl, rfl, rfl, Heap.le_refl _, none, Gl.nil _ _ _ _⟩ ?_
  rintro i s hi ⟨hdf, f10, f11, hle, ob, hg⟩
  have hx : (i : Int).toNat = i := Int.toNat_natCast _
  have h00 : (0 : Int) ≤ (i : Int) := Int.natCast_nonneg _
  by_cases hil : i < l.length
  case neg =>
    have q6 : ((i : Int) < (l.length : Int)) = False := eq_false (by omega)
    rw [List.take_of_length_le (by omega)] at hg
    refine tq (cj5 f10 f11 @i64.eq_1 q6 hml) ?_; intro Nx hNx Gx hGx
    refine rt hret hdf ?_
    exact ⟨_, Heap.le_refl _, hle, _, frz_gl hle hg, rfl⟩
  have q6 : ((i : Int) < (l.length : Int)) = True := eq_true (by omega)
  have w3 : IntKind.i64.wrap ((i : Int) + 1) = ((i + 1 : Nat) : Int) := by rw [wrap_i64_of (by omega)]; omega
  have hgi : (l.map tyD)[i]? = some (tyD l[i]) := by rw [List.getElem?_map, List.getElem?_eq_getElem hil]; rfl
  have hsn : ((l.take (i + 1)).map (·.r)).map iD = ((l.take i).map (·.r)).map iD ++ [iD l[i].r] := by rw [List.take_succ_eq_append_getElem hil]; simp only [List.map_append, List.map_cons, List.map_nil]
  obtain ⟨u, hu⟩ : ∃ u, u = l[i] := ⟨_, rfl⟩
  rw [← hu] at hgi hsn
  simp only [tyD] at hgi
  refine tq (cj9 f10 f11 @i64.eq_1 hml q6 hgi hx h00 hil) ?_; intro Nx hNx Gx hGx
  refine apV_grow (e := 3) ty48 rfl ty48 rfl ty3 rfl (by decide) hle hg (new := [iD u.r]) (by exact ⟨rfl, rfl⟩) (by rw [List.length_map, List.length_map, List.length_take]; show (_ + 1) * 8 ≤ _; omega) fun d H6 ob6 hg6 hle6 hp6 => ?_
  rw [← hsn] at hg6
  refine tq (cj3 f11 @i64.eq_1 w3) ?_; intro Nx hNx Gx hGx
  exact ⟨hil, hdf, f10, rfl, hle6, ob6, hg6⟩
theorem khasDr_N (p : PlS) (H : Heap) (hp : big p.pr.length) : Does Tryz.prog 37 [.agg (plD p), i64 0] H fun d H' => d = .val (.bool (hasDr p 0)) ∧ H = H' := by
  refine Does.frz (K := fun d => d = .val (.bool (hasDr p 0))) ?_
  have hres : hasDr p 0 = p.pr.any fun x => decide (x.1 = 0) := rfl
  have hml : (List.map pD p.pr).length = p.pr.length := List.length_map _
  have hle := Heap.le_refl H
  unfold big at hp
  refine does_of _ _ Tryz.func37 rfl rfl Tryz.ntmps37 Tryz.results37 (by simp only [List.length_cons, List.length_nil]; omega) fun w0 g0 Q hret => ?_
  refine tq (cj2 @i64.eq_1 @plD.eq_1) ?_; intro Nx hNx Gx hGx
  intro c2 hc2
  refine hNx _ ?_
  refine frz 2 hc2 ?_
  refine tq @i64.eq_1 ?_; intro Nx hNx Gx hGx
  refine W_loopN p.pr.length (fun i s => s.df = [] ∧ s.fr 1 = i64 0 ∧ s.fr 2 = .rp [i64 p.lo, .seq 2 (p.pr.map pD)] ∧ s.fr 5 = i64 i ∧ s.H = H ∧ (p.pr.any fun x => decide (x.1 = 0)) = ((p.pr.drop i).any fun x => decide (x.1 = 0))) ⟨rfl, rfl, rfl, rfl, rfl, rfl⟩ ?_
  rintro i s hi ⟨hdf, f1, f2, f5, hH, hal⟩
  have hx : (i : Int).toNat = i := Int.toNat_natCast _
  have h00 : (0 : Int) ≤ (i : Int) := Int.natCast_nonneg _
  have hleS : H.le s.H := by rw [hH]; exact Heap.le_refl _
  by_cases hil : i < p.pr.length
  case neg =>
    have q6 : ((i : Int) < (p.pr.length : Int)) = False := eq_false (by omega)
    rw [List.drop_eq_nil_of_le (by omega)] at hal
    refine tq (cj5 f2 f5 @i64.eq_1 q6 hml) ?_; intro Nx hNx Gx hGx
    refine rt hret hdf ?_
    exact ⟨_, Heap.le_refl _, hleS, _, frz_refl hleS, by rw [hres, hal]; rfl⟩
  have q6 : ((i : Int) < (p.pr.length : Int)) = True := eq_true (by omega)
  have q7 : ((i : Int) ≥ 0) = True := eq_true (by omega)
  have w3 : IntKind.i64.wrap ((i : Int) + 1) = ((i + 1 : Nat) : Int) := by rw [wrap_i64_of (by omega)]; omega
  have hgi := get_prs hil
  rw [List.drop_eq_getElem_cons hil, List.any_cons] at hal
  by_cases h0 : p.pr[i].1 = 0
  · have q8 : (p.pr[i].1 = 0) = True := eq_true h0
    rw [decide_eq_true h0, Bool.true_or] at hal
    refine tq (cj12 f1 f2 f5 @i64.eq_1 q6 q7 q8 hml hgi hx h00 hil) ?_; intro Nx hNx Gx hGx
    refine rt hret hdf ?_
    exact ⟨_, Heap.le_refl _, hleS, _, frz_refl hleS, by rw [hres, hal]⟩
  · have q8 : (p.pr[i].1 = 0) = False := eq_false h0
    rw [decide_eq_false h0, Bool.false_or] at hal
    refine tq (cj13 f1 f2 f5 @i64.eq_1 q6 q7 q8 hml hgi hx h00 hil w3) ?_; intro Nx hNx Gx hGx
    exact ⟨hil, hdf, f1, f2, rfl, hH, hal⟩
set_option maxHeartbeats 1000000 in
theorem kcop_N (ts : List TyS) (hw : wfT ts) (htl : ts.length ≤ 1000000) (har : ∀ t ∈ ts, t.ar.length ≤ 140737488351232) :
    ∀ (kk : Nat) (a : Int) (H : Heap), a < kk → Does Tryz.prog 36 [.seq 5 (ts.map tyD), i64 a] H fun d H' => d = .val (.bool (copB ts a)) ∧ H = H' := by
  intro kk
  induction kk using Nat.strongRecOn with
  | ind kk ih =>
    intro a H hak
    refine Does.frz (K := fun d => d = .val (.bool (copB ts a))) ?_
    have htyl : (List.map tyD ts).length = ts.length := List.length_map _
    have hle := Heap.le_refl H
    refine does_of _ _ Tryz.func36 rfl rfl Tryz.ntmps36 Tryz.results36 (by simp only [List.length_cons, List.length_nil]; omega) fun w0 g0 Q hret => ?_
    by_cases h1 : 0 ≤ a
    case neg =>
      have hcb : copB ts a = false := copB_f.2 fun h => h1 h.1.1
      have q1 : (a < 0) = True := eq_true (by omega)
      refine tq (cj3 @i64.eq_1 htyl q1) ?_; intro Nx hNx Gx hGx
      refine rt hret @i64.eq_1 ?_
      exact ⟨_, Heap.le_refl _, hle, _, frz_refl hle, by rw [hcb]⟩
    have q1 : (a < 0) = False := eq_false (by omega)
    by_cases h2 : a < ts.length
    case neg =>
      have hcb : copB ts a = false := copB_f.2 fun h => h2 h.1.2
      have q2 : ((ts.length : Int) ≤ a) = True := eq_true (by omega)
      refine tq (cj4 @i64.eq_1 htyl q1 q2) ?_; intro Nx hNx Gx hGx
      refine rt hret @i64.eq_1 ?_
      exact ⟨_, Heap.le_refl _, hle, _, frz_refl hle, by rw [hcb]⟩
    have q2 : ((ts.length : Int) ≤ a) = False := eq_false (by omega)
    have ha : InR ts.length a := ⟨h1, h2⟩
    have hga := ty_get ha
    have hci := cop_iff hw ha
    have hdn := Dn.F hw a ha
    have hara : (tyAt ts a).ar.length ≤ 140737488351232 := har _ (tyAt_in ha)
    obtain ⟨t, ht⟩ : ∃ t, t = tyAt ts a := ⟨_, rfl⟩
    unfold parF at hdn
    rw [← ht] at hga hdn hara hci
    obtain ⟨tk, tm, tr, te, ta⟩ := t
    simp only [tyD] at hga
    simp only at hara
    have htal : (List.map iD ta).length = ta.length := List.length_map _
    have hal : a.toNat < ts.length := by omega
    have hal' : a < (ts.length : Int) := ha.2
    refine tq (cj4 @i64.eq_1 htyl q1 q2) ?_; intro Nx hNx Gx hGx
    refine W_loopN ta.length (fun j s => s.df = [] ∧ s.fr 0 = .seq 5 (ts.map tyD) ∧ s.fr 1 = i64 a ∧ s.fr 5 = i64 j ∧ s.H = H ∧ ∀ x ∈ ta.take j, copB ts x = true) ⟨rfl, rfl, rfl, rfl, rfl, by simp⟩ ?_
    rintro j s hj ⟨hdf, f0, f1, f5, hH, hall⟩
    have hleS : H.le s.H := by rw [hH]; exact hle
    have hx : (j : Int).toNat = j := Int.toNat_natCast _
    have h00 : (0 : Int) ≤ (j : Int) := Int.natCast_nonneg _
    by_cases hjl : j < ta.length
    case neg =>
      have q6 : ((j : Int) < (ta.length : Int)) = False := eq_false (by omega)
      rw [List.take_of_length_le (by omega)] at hall
      by_cases h3 : tk = 3
      · have q3 : (tk = 3) = True := eq_true h3
        have hcb : copB ts a = !tm := by
          cases tm with
          | true => exact copB_f.2 fun h => (hci.1 h).1 ⟨h3, rfl⟩
          | false => exact copB_t.2 (hci.2 ⟨(fun h => by cases h.2), fun p hp => copB_t.1 (hall p hp)⟩)
        refine tq (cj12 f0 f1 f5 @i64.eq_1 htyl hga h1 hal hal' q6 htal q3) ?_; intro Nx hNx Gx hGx
        refine rt hret hdf ?_
        exact ⟨_, Heap.le_refl _, hleS, _, frz_refl hleS, by rw [hcb]⟩
      · have q3 : (tk = 3) = False := eq_false h3
        have hcb : copB ts a = true := copB_t.2 (hci.2 ⟨fun h => h3 h.1, fun p hp => copB_t.1 (hall p hp)⟩)
        refine tq (cj12 f0 f1 f5 @i64.eq_1 htyl hga h1 hal hal' q6 htal q3) ?_; intro Nx hNx Gx hGx
        refine rt hret hdf ?_
        exact ⟨_, Heap.le_refl _, hleS, _, frz_refl hleS, by rw [hcb]⟩
    have q6 : ((j : Int) < (ta.length : Int)) = True := eq_true (by omega)
    have w3 : IntKind.i64.wrap ((j : Int) + 1) = ((j + 1 : Nat) : Int) := by rw [wrap_i64_of (by omega)]; omega
    have hgj : (ta.map iD)[j]? = some (iD ta[j]) := by rw [List.getElem?_map, List.getElem?_eq_getElem hjl]; rfl
    have hxl : ta[j] ∈ ta := List.getElem_mem hjl
    have hxlt := hdn _ hxl
    refine tq (cj15 f0 f1 f5 @i64.eq_1 htyl hga h1 hal hal' htal q6 hgj hx h00 hjl) ?_; intro Nx hNx Gx hGx
    refine (ih (ta[j] + 1).toNat (by omega) ta[j] _ (by omega)).mono ?_
    rintro d _ ⟨rfl, rfl⟩
    by_cases hb : copB ts ta[j] = true
    · rw [hb]
      refine tq (cj3 f5 @i64.eq_1 w3) ?_; intro Nx hNx Gx hGx
      refine ⟨hjl, hdf, f0, f1, rfl, hH, fun x hx => ?_⟩
      rw [List.take_succ_eq_append_getElem hjl] at hx
      rcases List.mem_append.1 hx with hx | hx
      · exact hall x hx
      · rw [List.mem_singleton] at hx; rw [hx]; exact hb
    · rw [Bool.not_eq_true] at hb
      have hcb : copB ts a = false := copB_f.2 fun h => copB_f.1 hb ((hci.1 h).2 _ hxl)
      rw [hb]
      refine tq @i64.eq_1 ?_; intro Nx hNx Gx hGx
      refine rt hret hdf ?_
      exact ⟨_, Heap.le_refl _, hleS, _, frz_refl hleS, by rw [hcb]⟩
end Go.Proofs.YtgfhgeelfaalmaaGreatDoor
