/- Lemmas and contracts of functions, several texts in one: H4. -/
import Derived.Test.YtgfhgeelfaalmaaGreatDoorK39
import Derived.Test.YtgfhgeelfaalmaaGreatDoorK40
import Derived.Test.YtgfhgeelfaalmaaGreatDoorK28
namespace Go.Proofs.YtgfhgeelfaalmaaGreatDoor
open Go.RowKit
set_option maxRecDepth 100000
set_option linter.unusedVariables false
set_option maxRecDepth 100000
set_option linter.unusedSimpArgs false
def A1 (b : BdS) (k op rg : Int) (mu : Bool) (pl : PlS) (ar : List OpS) (t kd : Int) (H : Heap) (s : St) : Prop := s.df = [] ∧ s.fr 2 = i64 t ∧ s.fr 3 = .rp [strD b.nm, .seq 1 (b.rg.map sD), .seq 2 (b.ol.map pD), .seq 5 (b.ty.map tyD), .seq 2 (b.lc.map lcD), i64 b.ag, .seq 7 (b.bl.map bkD)] ∧ s.fr 4 = .rp [i64 k, i64 op, i64 rg, .val (.bool mu), i64 pl.lo, .seq 2 (pl.pr.map pD), .seq 4 (ar.map opD)] ∧ s.fr 8 = i64 kd ∧ s.H = H
def Bop (k op : Int) : Prop := (k = 2 ∧ (op < 0 ∨ 2 ≤ op)) ∨ (k = 3 ∧ (op < 0 ∨ 6 ≤ op))
open Classical in
noncomputable def fz (k : Int) (u : TyS) : List Int := if k = 4 then u.ar else []
set_option maxHeartbeats 4000000 in
theorem kassign_N (b : BdS) (r : RvS) (t : Int) (H : Heap) (ck : Ck b) (hp : okRv r) (ht : InR b.ty.length t) (hfs : ∀ f ∈ (tyAt b.ty t).ar, InR b.ty.length f) : Does Tryz.prog 40 [.agg (bdD b), .agg (rvD r), i64 t] H fun d H' => d = i64 (rvE b r t) ∧ H = H' := by
  refine Does.frz (K := fun d => d = i64 (rvE b r t)) ?_
  have hle := Heap.le_refl H
  have hsh := kshape_N r H hp
  have hbo := kborrow_N b r t H ck hp ht
  have hop : ∀ o ∈ r.ar, ∀ H1, CallOK Tryz.prog 15 [.agg (bdD b), .agg (opD o)] H1 fun d A => A = Heap.none ∧ d = i64 (opE b o) := fun o ho H1 => callOK_eq fun H'' hle'' => koperand_N b o H'' ck (hp.2.2 o ho)
  have hft : ∀ o ∈ r.ar, ∀ t, opE b o = 0 → InR b.ty.length t → ∀ H1, CallOK Tryz.prog 70 [.agg (bdD b), .agg (opD o), i64 t] H1 fun d A => A = Heap.none ∧ d = .val (.bool (fitE b o t)) := fun o ho t hz ht H1 => callOK_eq fun H'' hle'' => kfits_N b o t H'' ck (hp.2.2 o ho) hz ht
  have hfk : ∀ o ∈ r.ar, ∀ kd, opE b o = 0 → ∀ H1, CallOK Tryz.prog 42 [.agg (bdD b), .agg (opD o), i64 kd] H1 fun d A => A = Heap.none ∧ d = .val (.bool (decide (kdE b o = kd))) := fun o ho kd hz H1 => callOK_eq fun H'' hle'' => kfitsK_N b o kd H'' ck (hp.2.2 o ho) hz
  have hmt : (List.map tyD b.ty).length = b.ty.length := List.length_map _
  have hml : (List.map opD r.ar).length = r.ar.length := List.length_map _
  obtain ⟨y, hy⟩ : ∃ y, y = rvE b r t := ⟨_, rfl⟩
  rw [← hy]
  unfold rvE at hy
  have hgt := ty_get ht
  have hti : t.toNat < b.ty.length := by unfold InR at ht; omega
  have ht0 : 0 ≤ t := by unfold InR at ht; omega
  have hsl := fun h => shp_len (r := r) h
  unfold oprE at hy
  obtain ⟨u, hu⟩ : ∃ u, u = tyAt b.ty t := ⟨_, rfl⟩
  rw [← hu] at hgt hy hfs
  clear hu
  obtain ⟨BE, hBE⟩ : ∃ BE, BE = borE b r t := ⟨_, rfl⟩
  rw [← hBE] at hbo hy
  clear hBE
  unfold shpR at hsh
  obtain ⟨S, hS⟩ : ∃ S, S = shpE r := ⟨_, rfl⟩
  rw [← hS] at hsh hy hsl
  clear hS
  have har := hp.2.1
  unfold big at har
  have hmu : (List.map iD u.ar).length = u.ar.length := List.length_map _
  rw [bdD_eq] at hbo hop hft hfk ⊢
  obtain ⟨k, op, rg, mu, pl, ar⟩ := r
  simp only [tyD] at hgt
  simp only [rvD] at hsh hbo ⊢
  simp only at hy hsh hop hft hfk hml har hsl
  clear hp
  refine does_of _ _ Tryz.func40 rfl rfl Tryz.ntmps40 Tryz.results40 (by simp only [List.length_cons, List.length_nil]; omega) fun w0 g0 Q hret => ?_
  refine tq @i64.eq_1 ?_; intro Nx hNx Gx hGx
  intro c3 hc3 c4 hc4
  refine hNx _ ?_
  obtain ⟨nFz, hFz⟩ := Heap.upd_none.1 hc4; refine W_frzp 3 rfl ((Heap.upd_ne nFz.symm).trans (Heap.upd_same _ _ _)) rfl ?_; refine W_frzp 4 rfl ((Heap.del_ne nFz).trans (Heap.upd_same _ _ _)) rfl ?_; refine W_less _ (le_two hc3 hFz) ?_; simp only [St.frzp, List.drop]
  refine tq @i64.eq_1 ?_; intro Nx hNx Gx hGx
  refine hsh.mono ?_
  rintro d _ ⟨rfl, rfl⟩
  by_cases h1 : k < 0 ∨ 4 < k
  · have e : y = 14 := hy.trans (if_pos h1)
    rw [if_pos h1]
    exact oz hret (cj2 @i64.eq_1 @i64.eq_1) hle e
  rw [if_neg h1] at hy ⊢
  cases S
  · have e : y = 2 := hy
    rw [if_pos rfl]
    exact oz hret (cj2 @i64.eq_1 @i64.eq_1) hle e
  rw [if_neg (fun h => by cases h)] at hy ⊢
  by_cases hk1 : k = 1
  · have k1 : (k = 1) = True := eq_true hk1
    have e : y = BE := by rw [hy, if_neg (by omega), if_pos hk1]
    refine tq (cj6 @i64.eq_1 hgt hti ht0 hmt k1) ?_; intro Nx hNx Gx hGx
    refine hbo.mono ?_
    rintro d _ ⟨rfl, rfl⟩
    exact oz hret (cj2 @i64.eq_1 k1) hle e
  have k1 : (k = 1) = False := eq_false hk1
  rw [if_neg hk1] at hy
  (have fs := And.intro @i64.eq_1 (And.intro hgt (And.intro hti (And.intro ht0 (And.intro hmt k1)))); (iterate 14 (first | refine hGx _ ?_ | refine hNx _ ?_ | refine W_skip ?_ | refine W_exit ?_ | refine W_ret ?_ | refine W_label ?_ | refine W_scope ?_ | refine W_block ?_ | refine W_seq ?_ | ((first | refine tS fun Nx hNx => ?_ | refine WL_gE rfl rfl (by kernel_rfl) (by kernel_rfl) fun Gx hGx => ?_ | refine vcOpsS_sound (by kernel_rfl) ?_ | refine W_ifE fun A B hAx hBx => ?_); refine evT ?_; (first | refine hGx _ ?_ | refine hNx _ ?_ | refine hAx ?_ | refine hBx ?_ | skip)))); (try clear fs))
  refine W_toR (fun s => A1 b k op rg mu pl ar t u.k H s ∧ ¬ Bop k op) ?_ ?_
  · by_cases hk2 : k = 2
    · have k2 : (k = 2) = True := eq_true hk2
      have k3 : (k = 3) = False := eq_false (by omega)
      by_cases h2 : op < 0
      · have q2 : (op < 0) = True := eq_true h2
        have e : y = 14 := by rw [hy, if_neg (by omega), if_pos hk2, if_pos (.inl h2)]
        refine tq (cj3 @i64.eq_1 k2 q2) ?_; intro Nx hNx Gx hGx
        refine ⟨by simp, ?_⟩
        refine rt hret @i64.eq_1 ?_; exact ⟨_, Heap.le_refl _, hle, _, frz_refl hle, by rw [e]⟩
      have q2 : (op < 0) = False := eq_false h2
      by_cases h3 : 1 < op
      · have q3 : (1 < op) = True := eq_true h3
        have e : y = 14 := by rw [hy, if_neg (by omega), if_pos hk2, if_pos (.inr (by omega))]
        refine tq (cj4 @i64.eq_1 k2 q2 q3) ?_; intro Nx hNx Gx hGx
        refine ⟨by simp, ?_⟩
        refine rt hret @i64.eq_1 ?_; exact ⟨_, Heap.le_refl _, hle, _, frz_refl hle, by rw [e]⟩
      have q3 : (1 < op) = False := eq_false h3
      refine tq (cj5 @i64.eq_1 k2 k3 q2 q3) ?_; intro Nx hNx Gx hGx
      exact ⟨⟨rfl, rfl, rfl, rfl, rfl, rfl⟩, by unfold Bop; omega⟩
    have k2 : (k = 2) = False := eq_false hk2
    by_cases hk3 : k = 3
    · have k3 : (k = 3) = True := eq_true hk3
      by_cases h2 : op < 0
      · have q2 : (op < 0) = True := eq_true h2
        have e : y = 14 := by rw [hy, if_neg (by omega), if_neg hk2, if_pos hk3, if_pos (.inl h2)]
        refine tq (cj4 @i64.eq_1 k2 k3 q2) ?_; intro Nx hNx Gx hGx
        refine ⟨by simp, ?_⟩
        refine rt hret @i64.eq_1 ?_; exact ⟨_, Heap.le_refl _, hle, _, frz_refl hle, by rw [e]⟩
      have q2 : (op < 0) = False := eq_false h2
      by_cases h3 : 5 < op
      · have q3 : (5 < op) = True := eq_true h3
        have e : y = 14 := by rw [hy, if_neg (by omega), if_neg hk2, if_pos hk3, if_pos (.inr (by omega))]
        refine tq (cj5 @i64.eq_1 k2 k3 q2 q3) ?_; intro Nx hNx Gx hGx
        refine ⟨by simp, ?_⟩
        refine rt hret @i64.eq_1 ?_; exact ⟨_, Heap.le_refl _, hle, _, frz_refl hle, by rw [e]⟩
      have q3 : (5 < op) = False := eq_false h3
      refine tq (cj5 @i64.eq_1 k2 k3 q2 q3) ?_; intro Nx hNx Gx hGx
      exact ⟨⟨rfl, rfl, rfl, rfl, rfl, rfl⟩, by unfold Bop; omega⟩
    have k3 : (k = 3) = False := eq_false hk3
    refine tq (cj3 @i64.eq_1 k2 k3) ?_; intro Nx hNx Gx hGx
    exact ⟨⟨rfl, rfl, rfl, rfl, rfl, rfl⟩, by unfold Bop; omega⟩
  rintro s1 ⟨⟨hdf1, f2, f3, f4, f8, hH1⟩, hbop⟩
  unfold Bop at hbop
  have hle1 : H.le s1.H := by rw [hH1]; exact Heap.le_refl _
  refine W_seq ?_
  refine W_toR (fun s => A1 b k op rg mu pl ar t u.k H s ∧ ¬ (k = 4 ∧ (u.k ≠ 4 ∨ u.ar.length ≠ ar.length))) ?_ ?_
  · by_cases hk4 : k = 4
    · have k4 : (k = 4) = True := eq_true hk4
      by_cases h2 : u.k = 4
      case neg =>
        have q2 : (u.k = 4) = False := eq_false h2
        have e : y = 22 := by rw [hy, if_neg (by omega), if_neg (by omega), if_neg (by omega), if_pos (.inl h2)]
        (try refine W_seq ?_)
        refine W_drawE (fun _ _ _ _ => False) (by kernel_rfl) (by kernel_rfl) (by kernel_rfl) fun Nx hNx => ?_; refine dst (cj7 f2 f3 f4 f8 @i64.eq_1 k4 q2) ?_; intro Nx hNx Gx hGx
        refine tq @i64.eq_1 ?_; intro Nx hNx Gx hGx
        refine ⟨by simp, ?_⟩
        refine rt hret hdf1 ?_; exact ⟨_, Heap.le_refl _, hle1, _, frz_refl hle1, by rw [e]; rfl⟩
      have q2 : (u.k = 4) = True := eq_true h2
      by_cases h3 : u.ar.length = ar.length
      · have q3 : ((u.ar.length : Int) = (ar.length : Int)) = True := eq_true (by omega)
        (try refine W_seq ?_)
        refine W_drawE (fun _ _ _ _ => False) (by kernel_rfl) (by kernel_rfl) (by kernel_rfl) fun Nx hNx => ?_; refine dst (cj14 f2 f3 f4 f8 @i64.eq_1 k4 q2 q3 hgt hti ht0 hmt hmu hml) ?_; intro Nx hNx Gx hGx
        refine tq @i64.eq_1 ?_; intro Nx hNx Gx hGx
        exact ⟨⟨hdf1, f2, f3, f4, f8, hH1⟩, by omega⟩
      · have q3 : ((u.ar.length : Int) = (ar.length : Int)) = False := eq_false (by omega)
        have e : y = 22 := by rw [hy, if_neg (by omega), if_neg (by omega), if_neg (by omega), if_pos (.inr h3)]
        (try refine W_seq ?_)
        refine W_drawE (fun _ _ _ _ => False) (by kernel_rfl) (by kernel_rfl) (by kernel_rfl) fun Nx hNx => ?_; refine dst (cj14 f2 f3 f4 f8 @i64.eq_1 k4 q2 q3 hgt hti ht0 hmt hmu hml) ?_; intro Nx hNx Gx hGx
        refine tq @i64.eq_1 ?_; intro Nx hNx Gx hGx
        refine ⟨by simp, ?_⟩
        refine rt hret hdf1 ?_; exact ⟨_, Heap.le_refl _, hle1, _, frz_refl hle1, by rw [e]; rfl⟩
    have k4 : (k = 4) = False := eq_false hk4
    (try refine W_seq ?_)
    refine W_drawE (fun _ _ _ _ => False) (by kernel_rfl) (by kernel_rfl) (by kernel_rfl) fun Nx hNx => ?_; refine dst (cj6 f2 f3 f4 f8 @i64.eq_1 k4) ?_; intro Nx hNx Gx hGx
    refine tq @i64.eq_1 ?_; intro Nx hNx Gx hGx
    exact ⟨⟨hdf1, f2, f3, f4, f8, hH1⟩, by omega⟩
  clear f2 f3 f4 f8 hH1 hle1 hdf1
  rintro s1 ⟨⟨hdf1, f2, f3, f4, f8, hH1⟩, htup⟩
  have hfin : opsE b ar (fz k u) ≠ 0 → y = opsE b ar (fz k u) := fun h => by
    unfold fz at h ⊢
    by_cases hk4 : k = 4
    · rw [if_pos hk4] at h ⊢
      rw [hy, if_neg (by omega), if_neg (by omega), if_neg (by omega), if_neg (by omega)]
    · rw [if_neg hk4] at h ⊢
      by_cases hk0 : k = 0
      · have hl := hsl rfl hk0
        obtain ⟨o, rfl⟩ := List.length_eq_one_iff.1 hl
        have h2 : opsE b [o] [] = if opE b o ≠ 0 then opE b o else 0 := rfl
        have h3 : opsE b [o] [t] = if opE b o ≠ 0 then opE b o else if fitE b o t = false then 22 else 0 := rfl
        rw [h2] at h ⊢
        by_cases ho : opE b o = 0
        · rw [if_neg (fun k => k ho)] at h; exact absurd rfl h
        · rw [if_pos ho, hy, if_pos hk0, h3, if_pos ho]
      · by_cases hk2 : k = 2
        · rw [hy, if_neg hk0, if_pos hk2, if_neg (by omega), if_pos h]
        · rw [hy, if_neg hk0, if_neg hk2, if_pos (by omega), if_neg (by omega), if_pos h]
  have hfz : k = 4 → (fz k u).length = ar.length := fun h => by unfold fz; rw [if_pos h]; omega
  have hfn : k ≠ 4 → fz k u = [] := fun h => by unfold fz; rw [if_neg h]
  have hfu : k = 4 → fz k u = u.ar := fun h => by unfold fz; rw [if_pos h]
  refine tq @i64.eq_1 ?_; intro Nx hNx Gx hGx
  refine W_loopN ar.length (fun i s => A1 b k op rg mu pl ar t u.k H s ∧ s.fr 9 = i64 i ∧ opsE b ar (fz k u) = opsE b (ar.drop i) ((fz k u).drop i)) ⟨⟨hdf1, f2, f3, f4, f8, hH1⟩, rfl, rfl⟩ ?_
  clear f2 f3 f4 f8 hH1 hdf1
  rintro i s hi ⟨⟨hdf, f2, f3, f4, f8, hH⟩, f9, ha⟩
  have hx : (i : Int).toNat = i := Int.toNat_natCast _
  have h00 : (0 : Int) ≤ (i : Int) := Int.natCast_nonneg _
  have hleS : H.le s.H := by rw [hH]; exact Heap.le_refl _
  by_cases hil : i < ar.length
  case pos =>
    have hil' : (i : Int) < (ar.length : Int) := by omega
    have q6 : ((i : Int) < (ar.length : Int)) = True := eq_true hil'
    have w3 : IntKind.i64.wrap ((i : Int) + 1) = ((i + 1 : Nat) : Int) := by rw [wrap_i64_of (by omega)]; omega
    have hgi := op_get hil
    have hmem := List.getElem_mem hil
    rw [List.drop_eq_getElem_cons hil] at ha
    have hop := hop _ hmem s.H
    have hft := hft _ hmem
    obtain ⟨o, ho⟩ : ∃ o, o = ar[i] := ⟨_, rfl⟩
    rw [← ho] at hgi ha hop hft
    clear hmem ho
    obtain ⟨E, hE⟩ : ∃ E, E = opE b o := ⟨_, rfl⟩
    have hstep : opsE b (o :: ar.drop (i + 1)) ((fz k u).drop i) = if E ≠ 0 then E else match (fz k u).drop i with
      | [] => opsE b (ar.drop (i + 1)) []
      | f :: fs => if fitE b o f = false then 22 else opsE b (ar.drop (i + 1)) fs := by rw [hE]; rfl
    rw [hstep] at ha
    clear hstep
    rw [← hE] at hop hft
    clear hE
    simp only [opD] at hgi hop hft
    refine tq (cj5 f4 f9 @i64.eq_1 hml q6) ?_; intro Nx hNx Gx hGx
    (try refine W_seq ?_)
    refine W_drawE (fun _ _ d A => A = .none ∧ d = i64 E) (by kernel_rfl) (by kernel_rfl) (by kernel_rfl) fun Nx hNx => ?_; refine dst (cj10 f3 f4 f9 @i64.eq_1 hgi hx h00 hil hil' hml) ?_; intro Nx hNx Gx hGx
    refine ⟨hop, ?_⟩
    (first | refine hGx _ ?_ | refine hNx _ ?_ | skip)
    by_cases h0 : E = 0
    case neg =>
      have q0 : (E = 0) = False := eq_false h0
      rw [if_pos h0] at ha
      have e : y = E := by rw [hfin (by rw [ha]; exact h0), ha]
      exact oz hret (cj2 @i64.eq_1 q0) hleS e
    have q0 : (E = 0) = True := eq_true h0
    rw [if_neg (fun h => h h0)] at ha
    by_cases hk4 : k = 4
    case neg =>
      have k4 : (k = 4) = False := eq_false hk4
      rw [hfn hk4, List.drop_nil] at ha
      simp only at ha
      refine tq (cj2 @i64.eq_1 q0) ?_; intro Nx hNx Gx hGx
      (try refine W_seq ?_)
      refine W_drawE (fun _ _ _ _ => False) (by kernel_rfl) (by kernel_rfl) (by kernel_rfl) fun Nx hNx => ?_; refine dst (cj3 f4 @i64.eq_1 k4) ?_; intro Nx hNx Gx hGx
      refine tq (cj3 f9 @i64.eq_1 w3) ?_; intro Nx hNx Gx hGx
      exact ⟨hil, ⟨hdf, f2, f3, f4, f8, hH⟩, rfl, by rw [hfn hk4, List.drop_nil]; exact ha⟩
    have k4 : (k = 4) = True := eq_true hk4
    have hiu : i < u.ar.length := by have := hfz hk4; rw [hfu hk4] at this; omega
    have hiu' : (i : Int) < (u.ar.length : Int) := by omega
    rw [hfu hk4, List.drop_eq_getElem_cons hiu] at ha
    simp only at ha
    have hgu := get_ints hiu
    have hfin2 := hfs u.ar[i] (List.getElem_mem hiu)
    obtain ⟨f, hf⟩ : ∃ f, f = u.ar[i] := ⟨_, rfl⟩
    rw [← hf] at ha hgu hfin2
    have hft := hft f h0 hfin2 s.H
    obtain ⟨z, hz⟩ : ∃ z, z = fitE b o f := ⟨_, rfl⟩
    rw [← hz] at hft ha
    refine tq (cj2 @i64.eq_1 q0) ?_; intro Nx hNx Gx hGx
    (try refine W_seq ?_)
    refine W_drawE (fun _ _ d A => A = .none ∧ d = .val (.bool z)) (by kernel_rfl) (by kernel_rfl) (by kernel_rfl) fun Nx hNx => ?_; refine dst (cj20 f2 f3 f4 f9 @i64.eq_1 k4 hgi hx h00 hil hil' hml hgt hti ht0 hmt hgu hiu hiu' hmu) ?_; intro Nx hNx Gx hGx
    refine ⟨hft, ?_⟩
    cases z
    · rw [if_pos rfl] at ha
      have e : y = 22 := by rw [hfin (by rw [hfu hk4, ha]; decide), hfu hk4, ha]
      (first | refine hGx _ ?_ | skip)
      refine dst @i64.eq_1 ?_; intro Nx hNx Gx hGx
      exact oz hret (cj2 @i64.eq_1 @i64.eq_1) hleS e
    · rw [if_neg (fun h => by cases h)] at ha
      (first | refine hGx _ ?_ | skip)
      refine dst @i64.eq_1 ?_; intro Nx hNx Gx hGx
      refine tq (cj3 f9 @i64.eq_1 w3) ?_; intro Nx hNx Gx hGx
      exact ⟨hil, ⟨hdf, f2, f3, f4, f8, hH⟩, rfl, by rw [hfu hk4]; exact ha⟩
  have q6 : ((i : Int) < (ar.length : Int)) = False := eq_false (by omega)
  rw [List.drop_eq_nil_of_le (by omega)] at ha
  have hs1 : opsE b ar (fz k u) = 0 := by rw [ha]; rfl
  have hs0 := opsE_nil hs1
  have hall := opsE_all hs0
  clear hfin hfz hfn ha
  by_cases hk0 : k = 0
  · have k0 : (k = 0) = True := eq_true hk0
    have hl := hsl rfl hk0
    have hl1 : 0 < ar.length := by omega
    have hg0 := op_get hl1
    have hft := hft ar[0] (List.getElem_mem hl1) t (hall _ (List.getElem_mem hl1)) ht s.H
    have hy2 : y = if fitE b ar[0] t = false then 22 else 0 := by
      obtain ⟨o, rfl⟩ := List.length_eq_one_iff.1 hl
      have h3 : opsE b [o] [t] = if opE b o ≠ 0 then opE b o else if fitE b o t = false then 22 else 0 := rfl
      rw [hy, if_pos hk0, h3, if_neg (fun k => k (hall o (by simp)))]
      rfl
    obtain ⟨o, ho⟩ : ∃ o, o = ar[0] := ⟨_, rfl⟩
    rw [← ho] at hg0 hft hy2
    clear ho hy
    obtain ⟨z, hz⟩ : ∃ z, z = fitE b o t := ⟨_, rfl⟩
    rw [← hz] at hft hy2
    clear hz
    simp only [opD] at hg0 hft
    refine tq (cj6 f4 f9 @i64.eq_1 hml q6 k0) ?_; intro Nx hNx Gx hGx
    (try refine W_seq ?_)
    refine W_drawE (fun _ _ d A => A = .none ∧ d = .val (.bool z)) (by kernel_rfl) (by kernel_rfl) (by kernel_rfl) fun Nx hNx => ?_; refine dst (cj7 f2 f3 f4 @i64.eq_1 hg0 hml hl) ?_; intro Nx hNx Gx hGx
    refine ⟨hft, ?_⟩
    (first | refine hGx _ ?_ | refine hNx _ ?_ | skip)
    cases z
    · have e : y = 22 := hy2
      exact oz hret (cj2 @i64.eq_1 @i64.eq_1) hleS e
    · have e : y = 0 := hy2
      exact oz hret (cj2 @i64.eq_1 @i64.eq_1) hleS e
  have k0 : (k = 0) = False := eq_false hk0
  rw [if_neg hk0] at hy
  clear hft hop hsh hsl hbo
  obtain ⟨x, hxd⟩ : ∃ x : Int × Int, x = if k = 2 then unE op else binE op := ⟨_, rfl⟩
  have hy2 : y = if k = 4 then 0 else if (ar.all fun o => decide (kdE b o = x.1)) = false then 22 else if u.k ≠ x.2 then 22 else 0 := by
    by_cases hk4 : k = 4
    · rw [if_pos hk4, hy, if_neg (by omega), if_neg (by omega), if_neg (by omega), ← hfu hk4, hs1]
    rw [if_neg hk4, hxd]
    by_cases hk2 : k = 2
    · rw [if_pos hk2, hy, if_pos hk2, if_neg (by omega), if_neg (fun h => h hs0)]
    · rw [if_neg hk2, hy, if_neg hk2, if_pos (by omega), if_neg (by omega), if_neg (fun h => h hs0)]
  clear hy hs1 hfu hs0
  (have fs := And.intro f4 (And.intro f9 (And.intro @i64.eq_1 (And.intro hml (And.intro q6 k0)))); (iterate 15 (first | refine hGx _ ?_ | refine hNx _ ?_ | refine W_skip ?_ | refine W_exit ?_ | refine W_ret ?_ | refine W_label ?_ | refine W_scope ?_ | refine W_block ?_ | refine W_seq ?_ | ((first | refine tS fun Nx hNx => ?_ | refine WL_gE rfl rfl (by kernel_rfl) (by kernel_rfl) fun Gx hGx => ?_ | refine vcOpsS_sound (by kernel_rfl) ?_ | refine W_ifE fun A B hAx hBx => ?_); refine evT ?_; (first | refine hGx _ ?_ | refine hNx _ ?_ | refine hAx ?_ | refine hBx ?_ | skip)))); (try clear fs))
  refine W_to (fun s => A1 b k op rg mu pl ar t u.k H s ∧ s.fr 11 = i64 (if k = 2 ∧ op = 1 then 1 else 2) ∧ s.fr 12 = i64 (if k = 2 ∧ op = 1 then 1 else 2)) ?_ ?_
  · by_cases hk2 : k = 2
    · have k2 : (k = 2) = True := eq_true hk2
      by_cases h2 : op = 1
      · have q2 : (op = 1) = True := eq_true h2
        refine tq (cj4 f4 @i64.eq_1 k2 q2) ?_; intro Nx hNx Gx hGx
        exact ⟨⟨hdf, f2, f3, f4, f8, hH⟩, by rw [if_pos ⟨hk2, h2⟩]; rfl, by rw [if_pos ⟨hk2, h2⟩]; rfl⟩
      · have q2 : (op = 1) = False := eq_false h2
        refine tq (cj4 f4 @i64.eq_1 k2 q2) ?_; intro Nx hNx Gx hGx
        exact ⟨⟨hdf, f2, f3, f4, f8, hH⟩, by rw [if_neg (fun h => h2 h.2)]; rfl, by rw [if_neg (fun h => h2 h.2)]; rfl⟩
    · have k2 : (k = 2) = False := eq_false hk2
      refine tq (cj3 f4 @i64.eq_1 k2) ?_; intro Nx hNx Gx hGx
      exact ⟨⟨hdf, f2, f3, f4, f8, hH⟩, by rw [if_neg (fun h => hk2 h.1)]; rfl, by rw [if_neg (fun h => hk2 h.1)]; rfl⟩
  clear f2 f3 f4 f8 f9 hH hdf hleS
  rintro s1 ⟨⟨hdf, f2, f3, f4, f8, hH⟩, f11, f12⟩
  refine W_seq ?_
  refine W_to (fun s => A1 b k op rg mu pl ar t u.k H s ∧ s.fr 11 = i64 (if k = 2 ∧ op = 1 then 1 else 2) ∧ s.fr 12 = i64 (if (k = 2 ∧ op = 1) ∨ (k = 3 ∧ 3 ≤ op) then 1 else 2)) ?_ ?_
  · by_cases hk3 : k = 3
    · have k3 : (k = 3) = True := eq_true hk3
      by_cases h2 : 3 ≤ op
      · have q2 : (op ≥ 3) = True := eq_true h2
        refine tq (cj4 f4 @i64.eq_1 k3 q2) ?_; intro Nx hNx Gx hGx
        exact ⟨⟨hdf, f2, f3, f4, f8, hH⟩, f11, by rw [if_pos (.inr ⟨hk3, h2⟩)]; rfl⟩
      · have q2 : (op ≥ 3) = False := eq_false h2
        refine tq (cj4 f4 @i64.eq_1 k3 q2) ?_; intro Nx hNx Gx hGx
        exact ⟨⟨hdf, f2, f3, f4, f8, hH⟩, f11, by rw [if_neg (by omega)] at f12 ⊢; exact f12⟩
    · have k3 : (k = 3) = False := eq_false hk3
      refine tq (cj3 f4 @i64.eq_1 k3) ?_; intro Nx hNx Gx hGx
      refine ⟨⟨hdf, f2, f3, f4, f8, hH⟩, f11, ?_⟩
      by_cases h5 : k = 2 ∧ op = 1
      · rw [if_pos h5] at f12; rw [if_pos (.inl h5)]; exact f12
      · rw [if_neg h5] at f12; rw [if_neg (by omega)]; exact f12
  clear f2 f3 f4 f8 f11 f12 hH hdf
  rintro s2 ⟨⟨hdf, f2, f3, f4, f8, hH⟩, f11, f12⟩
  refine W_seq ?_
  refine W_to (fun s => A1 b k op rg mu pl ar t u.k H s ∧ s.fr 11 = i64 (if (k = 2 ∧ op = 1) ∨ (k = 3 ∧ op = 5) then 1 else 2) ∧ s.fr 12 = i64 (if (k = 2 ∧ op = 1) ∨ (k = 3 ∧ 3 ≤ op) then 1 else 2)) ?_ ?_
  · by_cases hk3 : k = 3
    · have k3 : (k = 3) = True := eq_true hk3
      by_cases h2 : op = 5
      · have q2 : (op = 5) = True := eq_true h2
        refine tq (cj4 f4 @i64.eq_1 k3 q2) ?_; intro Nx hNx Gx hGx
        exact ⟨⟨hdf, f2, f3, f4, f8, hH⟩, by rw [if_pos (.inr ⟨hk3, h2⟩)]; rfl, f12⟩
      · have q2 : (op = 5) = False := eq_false h2
        refine tq (cj4 f4 @i64.eq_1 k3 q2) ?_; intro Nx hNx Gx hGx
        exact ⟨⟨hdf, f2, f3, f4, f8, hH⟩, by rw [if_neg (by omega)] at f11 ⊢; exact f11, f12⟩
    · have k3 : (k = 3) = False := eq_false hk3
      refine tq (cj3 f4 @i64.eq_1 k3) ?_; intro Nx hNx Gx hGx
      refine ⟨⟨hdf, f2, f3, f4, f8, hH⟩, ?_, f12⟩
      by_cases h5 : k = 2 ∧ op = 1
      · rw [if_pos h5] at f11; rw [if_pos (.inl h5)]; exact f11
      · rw [if_neg h5] at f11; rw [if_neg (by omega)]; exact f11
  clear f2 f3 f4 f8 f11 f12 hH hdf
  rintro s3 ⟨⟨hdf, f2, f3, f4, f8, hH⟩, f11, f12⟩
  have hx1 : k ≠ 4 → (if (k = 2 ∧ op = 1) ∨ (k = 3 ∧ op = 5) then (1 : Int) else 2) = x.1 ∧ (if (k = 2 ∧ op = 1) ∨ (k = 3 ∧ 3 ≤ op) then (1 : Int) else 2) = x.2 := fun hk4 => by
    rw [hxd]
    by_cases hk2 : k = 2
    · rw [if_pos hk2]
      have ho : op = 0 ∨ op = 1 := by omega
      rcases ho with rfl | rfl
      · simp [hk2, unE]
      · simp [hk2, unE]
    · have hk3 : k = 3 := by omega
      rw [if_neg hk2]
      rcases int6 (x := op) (by omega) (by omega) with rfl | rfl | rfl | rfl | rfl | rfl <;> simp [hk3, binE]
  obtain ⟨x1, hx1d⟩ : ∃ x1 : Int, x1 = if (k = 2 ∧ op = 1) ∨ (k = 3 ∧ op = 5) then (1 : Int) else 2 := ⟨_, rfl⟩
  obtain ⟨x2, hx2d⟩ : ∃ x2 : Int, x2 = if (k = 2 ∧ op = 1) ∨ (k = 3 ∧ 3 ≤ op) then (1 : Int) else 2 := ⟨_, rfl⟩
  rw [← hx1d] at f11 hx1
  rw [← hx2d] at f12 hx1
  have hy3 : y = if k = 4 then 0 else if (ar.all fun o => decide (kdE b o = x1)) = false then 22 else if u.k ≠ x2 then 22 else 0 := by
    rw [hy2]
    by_cases hk4 : k = 4
    · rw [if_pos hk4, if_pos hk4]
    · rw [if_neg hk4, if_neg hk4, (hx1 hk4).1, (hx1 hk4).2]
  clear hx1 hx1d hx2d hy2 hxd
  refine tq @i64.eq_1 ?_; intro Nx hNx Gx hGx
  refine W_loopN ar.length (fun i s => A1 b k op rg mu pl ar t u.k H s ∧ s.fr 11 = i64 x1 ∧ s.fr 12 = i64 x2 ∧ s.fr 13 = i64 i ∧ (ar.all fun o => decide (kdE b o = x1)) = ((ar.drop i).all fun o => decide (kdE b o = x1))) ⟨⟨hdf, f2, f3, f4, f8, hH⟩, f11, f12, rfl, rfl⟩ ?_
  clear f2 f3 f4 f8 f11 f12 hH hdf
  clear hi hx h00 q6 hil
  rintro i s hi ⟨⟨hdf, f2, f3, f4, f8, hH⟩, f11, f12, f13, ha⟩
  have hx : (i : Int).toNat = i := Int.toNat_natCast _
  have h00 : (0 : Int) ≤ (i : Int) := Int.natCast_nonneg _
  have hleS : H.le s.H := by rw [hH]; exact Heap.le_refl _
  by_cases hk4 : k = 4
  · have k4 : (k = 4) = True := eq_true hk4
    have e : y = 0 := by rw [hy3, if_pos hk4]
    by_cases hil : i < ar.length
    · have q6 : ((i : Int) < (ar.length : Int)) = True := eq_true (by omega)
      exact oz hret (cj8 @i64.eq_1 f4 f8 f12 f13 hml q6 k4) hleS e
    · have q6 : ((i : Int) < (ar.length : Int)) = False := eq_false (by omega)
      exact oz hret (cj8 @i64.eq_1 f4 f8 f12 f13 hml q6 k4) hleS e
  have k4 : (k = 4) = False := eq_false hk4
  rw [if_neg hk4] at hy3
  by_cases hil : i < ar.length
  case neg =>
    have q6 : ((i : Int) < (ar.length : Int)) = False := eq_false (by omega)
    rw [List.drop_eq_nil_of_le (by omega), List.all_nil] at ha
    rw [ha, if_neg (fun h => by cases h)] at hy3
    by_cases h2 : u.k = x2
    · have q2 : (u.k = x2) = True := eq_true h2
      have e : y = 0 := hy3.trans (if_neg (fun h => h h2))
      exact oz hret (cj9 @i64.eq_1 f4 f8 f12 f13 hml q6 k4 q2) hleS e
    · have q2 : (u.k = x2) = False := eq_false h2
      have e : y = 22 := hy3.trans (if_pos h2)
      exact oz hret (cj9 @i64.eq_1 f4 f8 f12 f13 hml q6 k4 q2) hleS e
  have hil' : (i : Int) < (ar.length : Int) := by omega
  have q6 : ((i : Int) < (ar.length : Int)) = True := eq_true hil'
  have w3 : IntKind.i64.wrap ((i : Int) + 1) = ((i + 1 : Nat) : Int) := by rw [wrap_i64_of (by omega)]; omega
  have hgi := op_get hil
  have hmem := List.getElem_mem hil
  rw [List.drop_eq_getElem_cons hil, List.all_cons] at ha
  have hfk := hfk _ hmem x1 (hall _ hmem) s.H
  obtain ⟨o, ho⟩ : ∃ o, o = ar[i] := ⟨_, rfl⟩
  rw [← ho] at hgi ha hfk
  clear ho hmem
  obtain ⟨z, hz⟩ : ∃ z, z = decide (kdE b o = x1) := ⟨_, rfl⟩
  rw [← hz] at ha hfk
  clear hz
  simp only [opD] at hgi hfk
  refine tq (cj6 f4 f13 @i64.eq_1 hml q6 k4) ?_; intro Nx hNx Gx hGx
  (try refine W_seq ?_)
  refine W_drawE (fun _ _ d A => A = .none ∧ d = .val (.bool z)) (by kernel_rfl) (by kernel_rfl) (by kernel_rfl) fun Nx hNx => ?_; refine dst (cj11 f3 f4 f11 f13 @i64.eq_1 hgi hx h00 hil hil' hml) ?_; intro Nx hNx Gx hGx
  refine ⟨hfk, ?_⟩
  (first | refine hGx _ ?_ | refine hNx _ ?_ | skip)
  cases z
  · rw [Bool.false_and] at ha
    rw [ha, if_pos rfl] at hy3
    have e := hy3
    exact oz hret (cj2 @i64.eq_1 @i64.eq_1) hleS e
  · rw [Bool.true_and] at ha
    refine tq (cj3 f13 @i64.eq_1 w3) ?_; intro Nx hNx Gx hGx
    exact ⟨hil, ⟨hdf, f2, f3, f4, f8, hH⟩, f11, f12, rfl, ha⟩
end Go.Proofs.YtgfhgeelfaalmaaGreatDoor
