/- Lemmas and contracts of functions, several texts in one: GD G9 GE. -/
import Derived.Test.YtgfhgeelfaalmaaGreatDoorK26
import Derived.Test.YtgfhgeelfaalmaaGreatDoorK27
import Derived.Test.YtgfhgeelfaalmaaGreatDoorK19
import Derived.Test.YtgfhgeelfaalmaaGreatDoorK30
import Derived.Test.YtgfhgeelfaalmaaGreatDoorK29
namespace Go.Proofs.YtgfhgeelfaalmaaGreatDoor
open Go.RowKit
set_option maxRecDepth 100000
set_option linter.unusedVariables false
set_option linter.unusedSimpArgs false
structure Sb (b : BdS) : Prop where
  ok : okBd b
  nm : big b.nm.size
  rs : ∀ s ∈ b.rg, big s.size
  ls : ∀ x ∈ b.lc, big x.nm.size
  ts : ∀ x ∈ b.bl, big x.tm.nm.size
theorem fstE4 (n r t l : Int) : fstE [n, r, t, l] = if n ≠ 0 then n else if r ≠ 0 then r else if t ≠ 0 then t else if l ≠ 0 then l else 0 := rfl
theorem dec4 (I : Bool) (n : Int) (r t : Nat) (l c : Int) : (if I = false then 12 else if n ≠ 0 then n else if r ≠ 0 then (r : Int) else if t ≠ 0 then (t : Int) else if l ≠ 0 then l else c) = if I = false then 12 else if fstE [n, r, t, l] ≠ 0 then fstE [n, r, t, l] else c := by
  rw [fstE4]
  have e1 : ((r : Int) ≠ 0) ↔ r ≠ 0 := by omega
  have e2 : ((t : Int) ≠ 0) ↔ t ≠ 0 := by omega
  simp only [e1, e2]
  cases I
  · rfl
  · by_cases h1 : n = 0
    · by_cases h2 : r = 0
      · by_cases h3 : t = 0
        · by_cases h4 : l = 0
          · simp [h1, h2, h3, h4]
          · simp [h1, h2, h3, h4]
        · simp [h1, h2, h3]
      · simp [h1, h2]
    · simp [h1]
set_option maxHeartbeats 1000000 in
theorem decl_N (b : BdS) (H : Heap) (sb : Sb b) : Does Tryz.prog 26 [.agg (bdD b)] H fun d H' => d = i64 (decE b) ∧ H = H' := by
  refine Does.frz (K := fun d => d = i64 (decE b)) ?_
  have hle := Heap.le_refl H
  obtain ⟨o1, o2, ⟨o3, o4⟩, o5, o6, o7⟩ := sb.ok
  have hid := isid_N b.nm H sb.nm
  have h1 : ∀ H1, CallOK Tryz.prog 51 [.seq 1 (b.rg.map sD)] H1 fun d A => A = Heap.none ∧ d = i64 (namesE b.rg) := fun H1 => callOK_eq fun H'' hle'' => names_N b.rg H'' o1 sb.rs
  have h2 : ∀ H1, CallOK Tryz.prog 52 [.seq 2 (b.ol.map pD), i64 b.rg.length] H1 fun d A => A = Heap.none ∧ d = i64 (checkR b.ol b.rg.length) := fun H1 => callOK_eq fun H'' hle'' => rcheck_N b.ol _ H'' o2
  have h3 : ∀ H1, CallOK Tryz.prog 53 [.seq 5 (b.ty.map tyD), i64 b.rg.length] H1 fun d A => A = Heap.none ∧ d = i64 (chkT b.ty b.rg.length) := fun H1 => callOK_eq fun H'' hle'' => check_N b.ty _ H'' o3 o4
  have h4 : ∀ H1, CallOK Tryz.prog 54 [.agg (bdD b)] H1 fun d A => A = Heap.none ∧ d = i64 (locE b) := fun H1 => callOK_eq fun H'' hle'' => locals_N b H'' o5 sb.ls
  have h5 : ∀ l H1, big l.length → CallOK Tryz.prog 50 [.seq 1 (l.map iD)] H1 fun d A => A = Heap.none ∧ d = i64 (fstE l) := fun l H1 hl => callOK_eq fun H'' hle'' => first_N l H'' hl
  have hmr : (List.map sD b.rg).length = b.rg.length := List.length_map _
  have hmb : (List.map bkD b.bl).length = b.bl.length := List.length_map _
  unfold big at o6
  obtain ⟨y, hy⟩ : ∃ y, y = decE b := ⟨_, rfl⟩
  rw [← hy]
  unfold decE at hy
  obtain ⟨I, hI⟩ : ∃ I, I = isId b.nm := ⟨_, rfl⟩
  obtain ⟨n, hn⟩ : ∃ n, n = namesE b.rg := ⟨_, rfl⟩
  obtain ⟨r, hr⟩ : ∃ r, r = checkR b.ol b.rg.length := ⟨_, rfl⟩
  obtain ⟨t, ht⟩ : ∃ t, t = chkT b.ty b.rg.length := ⟨_, rfl⟩
  obtain ⟨l, hl⟩ : ∃ l, l = locE b := ⟨_, rfl⟩
  rw [← hI] at hy hid
  rw [← hn] at hy h1
  rw [← hr] at hy h2
  rw [← ht] at hy h3
  rw [← hl] at hy h4
  clear hI hn hr ht hl
  have h6 := fun H1 => h5 [n, r, t, l] H1 (by unfold big; simp)
  have hf := fstE4 n r t l
  obtain ⟨F, hF⟩ : ∃ F, F = fstE [n, r, t, l] := ⟨_, rfl⟩
  simp only [← hF] at h6 hf
  simp only [List.map_cons, List.map_nil, iD] at h6
  have hy2 : y = if I = false then 12 else if F ≠ 0 then F else if b.bl.length = 0 ∨ 65535 < b.bl.length then 15 else 0 := by
    rw [hy, hF]; exact dec4 I n r t l _
  clear hy hf hF h5
  rw [bdD_eq] at h4 ⊢
  refine does_of _ _ Tryz.func26 rfl rfl Tryz.ntmps26 Tryz.results26 (by simp only [List.length_cons, List.length_nil]; omega) fun w0 g0 Q hret => ?_
  refine tq @i64.eq_1 ?_; intro Nx hNx Gx hGx
  intro c1 hc1
  refine hNx _ ?_
  refine frz 1 hc1 ?_
  refine tq @i64.eq_1 ?_; intro Nx hNx Gx hGx
  refine hid.mono ?_
  rintro d _ ⟨rfl, rfl⟩
  cases I
  · have e : y = 12 := hy2
    exact oz hret (cj2 @i64.eq_1 @i64.eq_1) hle e
  rw [if_neg (fun h => by cases h)] at hy2
  refine tq (cj2 @i64.eq_1 hmr) ?_; intro Nx hNx Gx hGx
  refine W_drawE (fun t0 _ d A => A = .none ∧ d = (if t0 = some 14 then i64 n else if t0 = some 18 then i64 r else if t0 = some 22 then i64 t else if t0 = some 24 then i64 l else i64 F)) (by kernel_rfl) (by kernel_rfl) (by kernel_rfl) fun Nx hNx => ?_; refine dst @i64.eq_1 ?_; intro Nx hNx Gx hGx
  refine ⟨h1 _, h2 _, h3 _, h4 _, h6 _, ?_⟩
  (first | refine hGx _ ?_ | refine hNx _ ?_ | skip)
  by_cases q : F = 0
  case neg =>
    have q1 : (F = 0) = False := eq_false q
    have e : y = F := hy2.trans (if_pos q)
    exact oz hret (cj2 @i64.eq_1 q1) hle e
  have q1 : (F = 0) = True := eq_true q
  rw [if_neg (fun h => h q)] at hy2
  by_cases p : b.bl.length = 0
  · have p1 : ((b.bl.length : Int) = 0) = True := eq_true (by omega)
    have e : y = 15 := hy2.trans (if_pos (.inl p))
    exact oz hret (cj4 @i64.eq_1 q1 p1 hmb) hle e
  have p1 : ((b.bl.length : Int) = 0) = False := eq_false (by omega)
  by_cases p2 : 65535 < b.bl.length
  · have p3 : ((65535 : Int) < (b.bl.length : Int)) = True := eq_true (by omega)
    have e : y = 15 := hy2.trans (if_pos (.inr p2))
    exact oz hret (cj5 @i64.eq_1 q1 p1 p3 hmb) hle e
  have p3 : ((65535 : Int) < (b.bl.length : Int)) = False := eq_false (by omega)
  have e : y = 0 := hy2.trans (if_neg (by omega))
  exact oz hret (cj5 @i64.eq_1 q1 p1 p3 hmb) hle e
theorem fields_in {b : BdS} (hw : wfT b.ty) {t : Int} (h : InR b.ty.length t) : ∀ f ∈ (tyAt b.ty t).ar, InR b.ty.length f := fun f hf => by
  obtain ⟨h', he⟩ := tyAt_get h
  rw [he] at hf
  have := (hw _ h').2 f hf
  unfold InR
  omega
def StM (b : BdS) (n : Int) (b1 b2 : Nat) (s : StS) (H : Heap) (x : St) : Prop := x.df = [] ∧ x.fr 2 = .rp (ckD b n b1 b2) ∧ x.fr 3 = .rp (stD s) ∧ x.fr 5 = .rp (rvD s.rv) ∧ x.fr 6 = .val (.bool (blkE s)) ∧ x.H = H
set_option maxHeartbeats 2000000 in
theorem stmt_N (b : BdS) (n : Int) (b1 b2 : Nat) (s : StS) (H : Heap) (ck : Ck b) (hn : n = b.rg.length) (hR : RelH b.ol b1 b2 H) (hp : okSt s) : Does Tryz.prog 28 [.agg (ckD b n b1 b2), .agg (stD s)] H fun d H' => d = i64 (stE b s) ∧ H = H' := by
  refine Does.frz (K := fun d => d = i64 (stE b s)) ?_
  have hle := Heap.le_refl H
  have hz1 := zero_N s.pl H hp.1
  have hz2 := zero_N s.rv.pl H hp.2.1
  have hwr := writable_N b n b1 b2 s.pl H ck hp.1
  have hrv := fun t h => rvalue_N b n b1 b2 s.rv t H ck hn hR hp.2 h (fields_in ck.wt h)
  have hin : wrtE b s.pl = 0 → InR b.ty.length (toE b s.pl).1 := fun h => toE_in ck (by
    unfold wrtE at h
    exact Classical.byContradiction fun h2 => by rw [if_pos h2] at h; exact h2 h)
  have hml : (List.map opD s.rv.ar).length = s.rv.ar.length := List.length_map _
  have hmc : (List.map lcD b.lc).length = b.lc.length := List.length_map _
  obtain ⟨y, hy⟩ : ∃ y, y = stE b s := ⟨_, rfl⟩
  rw [← hy]
  unfold stE at hy
  have hM : ∀ x, StM b n b1 b2 s H x ↔ (x.df = [] ∧ x.fr 2 = .rp (ckD b n b1 b2) ∧ x.fr 3 = .rp (stD s) ∧ x.fr 5 = .rp (rvD s.rv) ∧ x.fr 6 = .val (.bool (blkE s)) ∧ x.H = H) := fun x => Iff.rfl
  obtain ⟨M, hMM⟩ : ∃ M, M = StM b n b1 b2 s H := ⟨_, rfl⟩
  rw [← hMM] at hM
  clear hMM
  have hb0 : blkE s = (zeroP s.pl && (decide (s.rv.k = 0) && decide (s.rv.op = 0) && decide (s.rv.ar.length = 0) && decide (s.rv.rg = 0) && !s.rv.mu && zeroP s.rv.pl)) := rfl
  obtain ⟨B, hB⟩ : ∃ B, B = blkE s := ⟨_, rfl⟩
  rw [← hB] at hy hM hb0
  clear hB
  rw [ckD_eq] at hwr hrv hM ⊢
  obtain ⟨T, hT⟩ : ∃ T, T = toE b s.pl := ⟨_, rfl⟩
  obtain ⟨E, hE⟩ : ∃ E, E = wrtE b s.pl := ⟨_, rfl⟩
  rw [← hT, ← hE] at hwr hin
  rw [← hT, ← hE] at hy
  clear hT hE
  have hax := hp.2.2.1
  unfold big at hax
  obtain ⟨k, pl, ⟨rk, rop, rrg, rmu, rpl, rar⟩, lo⟩ := s
  simp only [stD, rvD, plD] at hM hz1 hz2 hwr hrv ⊢
  simp only at hy hml hb0 hax
  refine does_of _ _ Tryz.func28 rfl rfl Tryz.ntmps28 Tryz.results28 (by simp only [List.length_cons, List.length_nil]; omega) fun w0 g0 Q hret => ?_
  refine tq @i64.eq_1 ?_; intro Nx hNx Gx hGx
  intro c2 hc2 c3 hc3
  refine hNx _ ?_
  obtain ⟨nFz, hFz⟩ := Heap.upd_none.1 hc3; refine W_frzp 2 rfl ((Heap.upd_ne nFz.symm).trans (Heap.upd_same _ _ _)) rfl ?_; refine W_frzp 3 rfl ((Heap.del_ne nFz).trans (Heap.upd_same _ _ _)) rfl ?_; refine W_less _ (le_two hc2 hFz) ?_; simp only [St.frzp, List.drop]
  refine tq @i64.eq_1 ?_; intro Nx hNx Gx hGx
  intro c5 hc5
  refine hNx _ ?_
  refine frz 5 hc5 ?_
  refine W_seq ?_
  refine W_to M ?_ ?_
  · obtain ⟨Z1, hZ1⟩ : ∃ Z1, Z1 = zeroP pl := ⟨_, rfl⟩
    rw [← hZ1] at hz1 hb0
    obtain ⟨Z2, hZ2⟩ : ∃ Z2, Z2 = zeroP rpl := ⟨_, rfl⟩
    rw [← hZ2] at hz2 hb0
    clear hZ1 hZ2 hy hin
    cases Z1
    · have eb : B = false := by rw [hb0]; rfl
      refine tq @i64.eq_1 ?_; intro Nx hNx Gx hGx
      refine hz1.mono ?_
      rintro d _ ⟨rfl, rfl⟩
      refine tq @i64.eq_1 ?_; intro Nx hNx Gx hGx
      exact (hM _).2 ⟨rfl, rfl, rfl, rfl, by rw [eb]; rfl, rfl⟩
    rw [Bool.true_and] at hb0
    by_cases h1 : rk = 0
    case neg =>
      have q1 : (rk = 0) = False := eq_false h1
      have eb : B = false := by rw [hb0, decide_eq_false h1]; rfl
      refine tq (cj2 @i64.eq_1 q1) ?_; intro Nx hNx Gx hGx
      refine hz1.mono ?_
      rintro d _ ⟨rfl, rfl⟩
      refine tq (cj2 @i64.eq_1 q1) ?_; intro Nx hNx Gx hGx
      exact (hM _).2 ⟨rfl, rfl, rfl, rfl, by rw [eb]; rfl, rfl⟩
    have q1 : (rk = 0) = True := eq_true h1
    rw [decide_eq_true h1, Bool.true_and] at hb0
    by_cases h2 : rop = 0
    case neg =>
      have q2 : (rop = 0) = False := eq_false h2
      have eb : B = false := by rw [hb0, decide_eq_false h2]; rfl
      refine tq @i64.eq_1 ?_; intro Nx hNx Gx hGx
      refine hz1.mono ?_
      rintro d _ ⟨rfl, rfl⟩
      refine tq (cj3 @i64.eq_1 q1 q2) ?_; intro Nx hNx Gx hGx
      exact (hM _).2 ⟨rfl, rfl, rfl, rfl, by rw [eb]; rfl, rfl⟩
    have q2 : (rop = 0) = True := eq_true h2
    rw [decide_eq_true h2, Bool.true_and] at hb0
    by_cases h3 : rar.length = 0
    case neg =>
      have q3 : ((rar.length : Int) = 0) = False := eq_false (by omega)
      have eb : B = false := by rw [hb0, decide_eq_false h3]; rfl
      refine tq @i64.eq_1 ?_; intro Nx hNx Gx hGx
      refine hz1.mono ?_
      rintro d _ ⟨rfl, rfl⟩
      refine tq (cj5 @i64.eq_1 q1 q2 q3 hml) ?_; intro Nx hNx Gx hGx
      exact (hM _).2 ⟨rfl, rfl, rfl, rfl, by rw [eb]; rfl, rfl⟩
    have q3 : ((rar.length : Int) = 0) = True := eq_true (by omega)
    rw [decide_eq_true h3, Bool.true_and] at hb0
    by_cases h4 : rrg = 0
    case neg =>
      have q4 : (rrg = 0) = False := eq_false h4
      have eb : B = false := by rw [hb0, decide_eq_false h4]; rfl
      refine tq @i64.eq_1 ?_; intro Nx hNx Gx hGx
      refine hz1.mono ?_
      rintro d _ ⟨rfl, rfl⟩
      refine tq (cj6 @i64.eq_1 q1 q2 q3 hml q4) ?_; intro Nx hNx Gx hGx
      exact (hM _).2 ⟨rfl, rfl, rfl, rfl, by rw [eb]; rfl, rfl⟩
    have q4 : (rrg = 0) = True := eq_true h4
    rw [decide_eq_true h4, Bool.true_and] at hb0
    cases rmu
    case true =>
      have eb : B = false := by rw [hb0]; rfl
      refine tq @i64.eq_1 ?_; intro Nx hNx Gx hGx
      refine hz1.mono ?_
      rintro d _ ⟨rfl, rfl⟩
      refine tq (cj6 @i64.eq_1 q1 q2 q3 hml q4) ?_; intro Nx hNx Gx hGx
      exact (hM _).2 ⟨rfl, rfl, rfl, rfl, by rw [eb]; rfl, rfl⟩
    have eb : B = Z2 := by rw [hb0]; rfl
    refine tq @i64.eq_1 ?_; intro Nx hNx Gx hGx
    refine hz1.mono ?_
    rintro d _ ⟨rfl, rfl⟩
    refine tq (cj6 @i64.eq_1 q1 q2 q3 hml q4) ?_; intro Nx hNx Gx hGx
    refine hz2.mono ?_
    rintro d _ ⟨rfl, rfl⟩
    refine tq @i64.eq_1 ?_; intro Nx hNx Gx hGx
    exact (hM _).2 ⟨rfl, rfl, rfl, rfl, by rw [eb]; rfl, rfl⟩
  intro s hs
  obtain ⟨hdf, f2, f3, f5, f6, hH⟩ := (hM s).1 hs
  have hleS : H.le s.H := by rw [hH]; exact Heap.le_refl _
  by_cases hk : k = 0
  · have k0 : (k = 0) = True := eq_true hk
    rw [if_pos hk] at hy
    by_cases h1 : lo = 0
    case neg =>
      have q1 : (lo = 0) = False := eq_false h1
      have e : y = 2 := hy.trans (if_pos h1)
      exact oz hret (cj4 @i64.eq_1 f3 k0 q1) hleS e
    have q1 : (lo = 0) = True := eq_true h1
    rw [if_neg (fun h => h h1)] at hy
    rw [← hH] at hwr
    refine tq (cj5 @i64.eq_1 f2 f3 k0 q1) ?_; intro Nx hNx Gx hGx
    refine hwr.mono ?_
    rintro d _ ⟨rfl, hHH⟩
    by_cases h2 : E = 0
    case neg =>
      have q2 : (E = 0) = False := eq_false h2
      have e : y = E := hy.trans (if_pos h2)
      rw [hHH] at hleS
      exact oz hret (cj2 @i64.eq_1 q2) hleS e
    have q2 : (E = 0) = True := eq_true h2
    rw [if_neg (fun h => h h2)] at hy
    have hr := hrv T.1 (hin h2)
    rw [← hH, hHH] at hr
    rw [hHH] at hleS
    refine tq (cj4 @i64.eq_1 f2 f5 q2) ?_; intro Nx hNx Gx hGx
    refine hr.mono ?_
    rintro d _ ⟨rfl, hH3⟩
    rw [hH3] at hleS
    have e := hy
    exact oz hret (cj2 @i64.eq_1 @i64.eq_1) hleS e
  have k0 : (k = 0) = False := eq_false hk
  rw [if_neg hk] at hy
  by_cases hk1 : k = 1
  · have k1 : (k = 1) = True := eq_true hk1
    rw [if_pos hk1] at hy
    cases B
    · have e : y = 2 := hy
      exact oz hret (cj5 @i64.eq_1 f3 f6 k0 k1) hleS e
    rw [if_neg (fun h => by cases h)] at hy
    by_cases h1 : lo < 0
    · have q1 : (lo < 0) = True := eq_true h1
      have e : y = 3 := hy.trans (if_pos (.inl h1))
      exact oz hret (cj7 @i64.eq_1 f2 f3 f6 k0 k1 q1) hleS e
    have q1 : (lo < 0) = False := eq_false h1
    by_cases h2 : (b.lc.length : Int) ≤ lo
    · have q2 : (lo ≥ (b.lc.length : Int)) = True := eq_true h2
      have e : y = 3 := hy.trans (if_pos (.inr h2))
      exact oz hret (cj9 @i64.eq_1 f2 f3 f6 k0 k1 q1 q2 hmc) hleS e
    have q2 : (lo ≥ (b.lc.length : Int)) = False := eq_false h2
    have e : y = 0 := hy.trans (if_neg (by omega))
    exact oz hret (cj9 @i64.eq_1 f2 f3 f6 k0 k1 q1 q2 hmc) hleS e
  have k1 : (k = 1) = False := eq_false hk1
  rw [if_neg hk1] at hy
  by_cases hk2 : k = 2
  · have k2 : (k = 2) = True := eq_true hk2
    rw [if_pos hk2] at hy
    cases B
    · have e : y = 2 := hy
      exact oz hret (cj6 @i64.eq_1 f3 f6 k0 k1 k2) hleS e
    by_cases h1 : lo = 0
    · have q1 : (lo = 0) = True := eq_true h1
      have e : y = 0 := hy.trans (if_neg (by rintro (h | h); cases h; exact h h1))
      exact oz hret (cj7 @i64.eq_1 f3 f6 k0 k1 k2 q1) hleS e
    · have q1 : (lo = 0) = False := eq_false h1
      have e : y = 2 := hy.trans (if_pos (.inr h1))
      exact oz hret (cj7 @i64.eq_1 f3 f6 k0 k1 k2 q1) hleS e
  have k2 : (k = 2) = False := eq_false hk2
  rw [if_neg hk2] at hy
  have e : y = 14 := hy
  exact oz hret (cj5 @i64.eq_1 f3 k0 k1 k2) hleS e
theorem le_fst {H : Heap} {a c : Nat} {x y : HObj} (h2 : H a = none) (h3 : H c = none) (hn : c ≠ a) : (H.upd c y).le (((H.upd a x).upd c y).del a) := fun b z hz => by
  by_cases e : b = c
  · subst e
    rw [Heap.upd_same] at hz
    rw [Heap.del_ne hn, Heap.upd_same]; exact hz
  · rw [Heap.upd_ne e] at hz
    have e2 : b ≠ a := fun e => by rw [e, h2] at hz; cases hz
    rw [Heap.del_ne e2, Heap.upd_ne e, Heap.upd_ne e2]; exact hz
theorem relH_at {l : List (Int × Int)} {b1 b2 : Nat} {H H' : Heap} (h : RelH l b1 b2 H) (h1 : H' b1 = H b1) (h2 : H' b2 = H b2) : RelH l b1 b2 H' := by
  obtain ⟨m1, m2, a1, a2, a3, a4⟩ := h
  exact ⟨m1, m2, h1.trans a1, a2, h2.trans a3, a4⟩
set_option maxHeartbeats 1000000 in
theorem newC_N (b : BdS) (H : Heap) (hn : b.rg.length ≤ 1000000) (hc : checkR b.ol b.rg.length = 0) : Does Tryz.prog 27 [.agg (bdD b)] H fun d H' => ∃ b1 b2 m1 m2, d = .agg (ckD b b.rg.length b1 b2) ∧ H b1 = none ∧ H b2 = none ∧ b1 ≠ b2 ∧ H' = (H.upd b1 (.map m1)).upd b2 (.map m2) ∧ RelH b.ol b1 b2 H' ∧ H.le H' := by
  have hmr : (List.map sD b.rg).length = b.rg.length := List.length_map _
  rw [bdD_eq]
  refine does_of _ _ Tryz.func27 rfl rfl Tryz.ntmps27 Tryz.results27 (by simp only [List.length_cons, List.length_nil]; omega) fun w0 g0 Q hret => ?_
  refine tq @i64.eq_1 ?_; intro Nx hNx Gx hGx
  intro c1 hc1 c2 hc2
  refine hNx _ ?_
  obtain ⟨nFz, hFz⟩ := Heap.upd_none.1 hc2; refine W_frzp 1 rfl ((Heap.upd_ne nFz.symm).trans (Heap.upd_same _ _ _)) rfl ?_; refine W_less _ (le_fst hc1 hFz nFz) ?_; simp only [St.frzp, List.drop]
  refine tq (cj2 @i64.eq_1 hmr) ?_; intro Nx hNx Gx hGx
  refine (new_N b.ol b.rg.length _ (by omega) hc).mono ?_
  rintro d H1 ⟨b1, b2, m1, m2, rfl, hb1, hb2, hne, rfl, hR, hle1⟩
  obtain ⟨n1, hb1⟩ := Heap.upd_none.1 hb1
  obtain ⟨n2, hb2⟩ := Heap.upd_none.1 hb2
  obtain ⟨R, hRR⟩ : ∃ R : HObj, (H.upd c2 R) c2 = some R ∧ R = .row 68 0 8 [[.val (.string ByteArray.empty), .val (.slice none 0 0), .val (.slice none 0 0), .val (.slice none 0 0), .val (.slice none 0 0), i64 0, .val (.slice none 0 0), .val (.pointer none)]] := ⟨_, Heap.upd_same _ _ _, rfl⟩
  obtain ⟨H2, hH2⟩ : ∃ H2, H2 = ((H.upd c2 R).upd b1 (.map m1)).upd b2 (.map m2) := ⟨_, rfl⟩
  have hl2 : H2 c2 = some R := by rw [hH2, Heap.upd_ne n2.symm, Heap.upd_ne n1.symm, Heap.upd_same]
  rw [hRR.2] at hH2 hl2
  simp only [i64] at hH2 hl2 ⊢
  rw [← hH2]
  refine tq (cj3 @i64.eq_1 @relD.eq_1 hl2) ?_; intro Nx hNx Gx hGx
  refine rt hret @i64.eq_1 ?_
  have hH' : ((H.upd b1 (.map m1)).upd b2 (.map m2)).le (H2.upd c2 (.row 68 0 8 [[strD b.nm, .seq 1 (b.rg.map sD), .seq 2 (b.ol.map pD), .seq 5 (b.ty.map tyD), .seq 2 (b.lc.map lcD), i64 b.ag, .seq 7 (b.bl.map bkD), relD b.rg.length b1 b2]])) := fun c z hz => by
    have hz' : c ≠ c2 := fun e => by
      rw [e, Heap.upd_ne n2.symm, Heap.upd_ne n1.symm, hFz] at hz; cases hz
    rw [Heap.upd_ne hz', hH2]
    by_cases e2 : c = b2
    · subst e2; rw [Heap.upd_same] at hz ⊢; exact hz
    · rw [Heap.upd_ne e2] at hz ⊢
      by_cases e1 : c = b1
      · subst e1; rw [Heap.upd_same] at hz ⊢; exact hz
      · rw [Heap.upd_ne e1] at hz ⊢; rw [Heap.upd_ne hz']; exact hz
  refine ⟨_, hH', b1, b2, m1, m2, rfl, hb1, hb2, hne, rfl, relH_at hR ?_ ?_, ?_⟩
  · rw [Heap.upd_ne hne, Heap.upd_same, Heap.upd_ne hne, Heap.upd_same]
  · rw [Heap.upd_same, Heap.upd_same]
  · exact Heap.le_new (Heap.le_new (Heap.le_refl _) hb1) ((Heap.upd_ne hne.symm).trans hb2)
end Go.Proofs.YtgfhgeelfaalmaaGreatDoor
