/- Lemmas and contracts of functions, several texts in one: H7. -/
import Derived.Test.YtgfhgeelfaalmaaGreatDoorK33
import Derived.Test.YtgfhgeelfaalmaaGreatDoorK10
import Derived.Test.YtgfhgeelfaalmaaGreatDoorK15
import Derived.Test.YtgfhgeelfaalmaaGreatDoorK21
namespace Go.Proofs.YtgfhgeelfaalmaaGreatDoor
open Go.RowKit
set_option maxRecDepth 100000
set_option linter.unusedVariables false
set_option linter.unusedSimpArgs false
theorem Gl.elsP {H0 : Heap} {e : TypeId} {sz : Nat} {els : List (List D)} {d : D} {H : Heap} {ob : Option Nat} (h : Gl H0 e sz els d H ob) : elsP H sz d (· = els) := by
  rcases h with ⟨_, rfl, rfl⟩ | ⟨c, o, _, rfl, _, h4⟩
  · simp [Go.Proofs.YtgfhgeelfaalmaaGreatDoor.elsP]
  · exact els_own h4 rfl
theorem kix_at (l : List ByteArray) (x : ByteArray) (d : D) (H H0 : Heap) (ob : Option Nat) (hl : big l.length) (hg : Gl H0 9 1 (l.map sD) d H ob) : Does Tryz.prog 31 [d, strD x] H fun d H' => d = i64 (if ixS l x < l.length then (ixS l x : Int) else -1) ∧ H = H' :=
  pure_D ((ikindex_N l x .none hl).mono fun _ _ h => h.1) rfl (vws2 (vw_els hg.elsP) (vw_refl _ _))
theorem take_sD (l : List ByteArray) (i : Nat) : List.take i (List.map sD l) = List.map sD (l.take i) := (List.map_take).symm
set_option maxHeartbeats 2000000 in
theorem kdecl_N (b : BdS) (H : Heap) (sb : Sb b) : Does Tryz.prog 13 [.agg (bdD b)] H fun d H' => d = i64 (decE b) ∧ H = H' := by
  refine Does.frz (K := fun d => d = i64 (decE b)) ?_
  have hle := Heap.le_refl H
  obtain ⟨o1, o2, ⟨o3, o4⟩, o5, o6, o7⟩ := sb.ok
  have hid := kisid_N b.nm H sb.nm
  have hkr := kcheck_N b.ol b.rg.length H o2
  have hkt := kchk_N b.ty b.rg.length H o3 o4
  have hrs := sb.rs
  have hls := sb.ls
  have hmr : (List.map sD b.rg).length = b.rg.length := List.length_map _
  have hml : (List.map lcD b.lc).length = b.lc.length := List.length_map _
  have hmt : (List.map tyD b.ty).length = b.ty.length := List.length_map _
  have hmb : (List.map bkD b.bl).length = b.bl.length := List.length_map _
  unfold big at o1 o5 o6
  obtain ⟨y, hy⟩ : ∃ y, y = decE b := ⟨_, rfl⟩
  rw [← hy]
  unfold decE namesE locE at hy
  obtain ⟨I, hI⟩ : ∃ I, I = isId b.nm := ⟨_, rfl⟩
  rw [← hI] at hy hid
  clear hI
  obtain ⟨R, hR⟩ : ∃ R, R = checkR b.ol b.rg.length := ⟨_, rfl⟩
  rw [← hR] at hy hkr
  obtain ⟨T, hT⟩ : ∃ T, T = chkT b.ty b.rg.length := ⟨_, rfl⟩
  rw [← hT] at hy hkt
  clear hR hT
  rw [bdD_eq]
  refine does_of _ _ Tryz.func13 rfl rfl Tryz.ntmps13 Tryz.results13 (by simp only [List.length_cons, List.length_nil]; omega) fun w0 g0 Q hret => ?_
  refine tq @i64.eq_1 ?_; intro Nx hNx Gx hGx
  intro c1 hc1
  refine hNx _ ?_
  refine frz 1 hc1 ?_
  refine tq @i64.eq_1 ?_; intro Nx hNx Gx hGx
  refine hid.mono ?_
  rintro d _ ⟨rfl, rfl⟩
  cases I
  · have e : y = 12 := hy
    exact oz hret (cj2 @i64.eq_1 @i64.eq_1) hle e
  rw [if_neg (fun h => by cases h)] at hy
  by_cases h1 : 65535 < b.rg.length
  · have q1 : ((65535 : Int) < (b.rg.length : Int)) = True := eq_true (by omega)
    have e : y = 15 := by rw [hy, if_pos h1]; rfl
    exact oz hret (cj3 @i64.eq_1 q1 hmr) hle e
  have q1 : ((65535 : Int) < (b.rg.length : Int)) = False := eq_false (by omega)
  rw [if_neg h1] at hy
  refine tq (cj3 @i64.eq_1 q1 hmr) ?_; intro Nx hNx Gx hGx
  refine W_loopN b.rg.length (fun i s => s.df = [] ∧ s.fr 1 = .rp [strD b.nm, .seq 1 (b.rg.map sD), .seq 2 (b.ol.map pD), .seq 5 (b.ty.map tyD), .seq 2 (b.lc.map lcD), i64 b.ag, .seq 7 (b.bl.map bkD)] ∧ s.fr 3 = i64 i ∧ s.H = H ∧ nmsE [] b.rg = nmsE (b.rg.take i) (b.rg.drop i)) ⟨rfl, rfl, rfl, rfl, rfl⟩ ?_
  rintro i s hi ⟨hdf, f1, f3, hH, ha⟩
  have hx : (i : Int).toNat = i := Int.toNat_natCast _
  have h00 : (0 : Int) ≤ (i : Int) := Int.natCast_nonneg _
  have hleS : H.le s.H := by rw [hH]; exact Heap.le_refl _
  by_cases hil : i < b.rg.length
  case pos =>
    have hil' : (i : Int) < (b.rg.length : Int) := by omega
    have hil2 : (i : Int) ≤ (b.rg.length : Int) := by omega
    have q6 : ((i : Int) < (b.rg.length : Int)) = True := eq_true hil'
    have w3 : IntKind.i64.wrap ((i : Int) + 1) = ((i + 1 : Nat) : Int) := by rw [wrap_i64_of (by omega)]; omega
    have hgi := get_strs hil
    have hbi := hrs b.rg[i] (List.getElem_mem hil)
    rw [List.drop_eq_getElem_cons hil, nmsE] at ha
    have htk := List.take_succ_eq_append_getElem hil
    obtain ⟨x, hxx⟩ : ∃ x, x = b.rg[i] := ⟨_, rfl⟩
    rw [← hxx] at hgi hbi ha htk
    have hbad : ∀ z : Int, z ≠ 0 → nmsE [] b.rg = z → y = z := fun z hz h => by rw [h, if_pos hz] at hy; exact hy
    have hid := kisid_N x s.H hbi
    simp only [strD] at hid
    obtain ⟨v, hv⟩ : ∃ v, v = isId x := ⟨_, rfl⟩
    rw [← hv] at hid ha
    refine tq (cj10 f1 f3 @i64.eq_1 hmr q6 hgi hx h00 hil hil') ?_; intro Nx hNx Gx hGx
    refine hid.mono ?_
    rintro d _ ⟨rfl, hHH⟩
    rw [hHH] at hleS
    cases v
    · rw [if_pos rfl] at ha
      have e := hbad 12 (by decide) ha
      exact oz hret (cj2 @i64.eq_1 @i64.eq_1) hleS e
    rw [if_neg (fun h => by cases h)] at ha
    have hix : ∀ H1, CallOK Tryz.prog 31 [.seq 1 ((b.rg.take i).map sD), .val (.string x)] H1 fun d A => A = Heap.none ∧ d = i64 (if ixS (b.rg.take i) x < (b.rg.take i).length then (ixS (b.rg.take i) x : Int) else -1) := fun H1 => callOK_eq fun H'' hle'' => ikindex_N (b.rg.take i) x H'' (by unfold big; rw [List.length_take]; omega)
    have htm := take_sD b.rg i
    have hd0 := List.drop_zero (l := List.map sD (b.rg.take i))
    by_cases hm : x ∈ b.rg.take i
    · have hm2 := ixS_lt.2 hm
      rw [if_pos hm2] at ha hix
      have e := hbad 21 (by decide) ha
      obtain ⟨n, hn⟩ : ∃ n : Int, n = (ixS (b.rg.take i) x : Int) := ⟨_, rfl⟩
      rw [← hn] at hix
      have qn : (n ≥ 0) = True := eq_true (by omega)
      refine tq @i64.eq_1 ?_; intro Nx hNx Gx hGx
      (try refine W_seq ?_)
      refine W_drawE (fun _ _ d A => A = .none ∧ d = i64 n) (by kernel_rfl) (by kernel_rfl) (by kernel_rfl) fun Nx hNx => ?_; refine dst (cj12 f1 f3 @i64.eq_1 hmr hgi hx h00 hil hil' hil2 htm hd0) ?_; intro Nx hNx Gx hGx
      refine ⟨hix _, ?_⟩
      (first | refine hGx _ ?_ | refine hNx _ ?_ | skip)
      exact oz hret (cj2 @i64.eq_1 qn) hleS e
    · have hm2 : ¬ ixS (b.rg.take i) x < (b.rg.take i).length := fun h => hm (ixS_lt.1 h)
      rw [if_neg hm2] at ha hix
      refine tq @i64.eq_1 ?_; intro Nx hNx Gx hGx
      (try refine W_seq ?_)
      refine W_drawE (fun _ _ d A => A = .none ∧ d = i64 (-1)) (by kernel_rfl) (by kernel_rfl) (by kernel_rfl) fun Nx hNx => ?_; refine dst (cj12 f1 f3 @i64.eq_1 hmr hgi hx h00 hil hil' hil2 htm hd0) ?_; intro Nx hNx Gx hGx
      refine ⟨hix _, ?_⟩
      (first | refine hGx _ ?_ | refine hNx _ ?_ | skip)
      refine tq (cj3 f3 @i64.eq_1 w3) ?_; intro Nx hNx Gx hGx
      exact ⟨hil, hdf, f1, rfl, hHH ▸ hH, by rw [ha, htk]⟩
  have q6 : ((i : Int) < (b.rg.length : Int)) = False := eq_false (by omega)
  rw [List.drop_eq_nil_of_le (by omega), nmsE] at ha
  rw [ha, if_neg (fun h => h rfl)] at hy
  clear ha
  rw [← hH] at hkr hkt
  refine tq (cj5 f1 f3 @i64.eq_1 hmr q6) ?_; intro Nx hNx Gx hGx
  refine hkr.mono ?_
  rintro d _ ⟨rfl, hHH⟩
  rw [hHH] at hleS hkt
  by_cases h2 : R = 0
  case neg =>
    have q2 : ((R : Int) = 0) = False := eq_false (by omega)
    have e : y = R := by rw [hy, if_pos h2]
    exact oz hret (cj2 @i64.eq_1 q2) hleS e
  have q2 : ((R : Int) = 0) = True := eq_true (by omega)
  rw [if_neg (fun h => h h2)] at hy
  refine tq (cj4 f1 @i64.eq_1 q2 hmr) ?_; intro Nx hNx Gx hGx
  refine hkt.mono ?_
  rintro d _ ⟨rfl, hHH2⟩
  rw [hHH2] at hleS
  by_cases h3 : T = 0
  case neg =>
    have q3 : ((T : Int) = 0) = False := eq_false (by omega)
    have e : y = T := by rw [hy, if_pos h3]
    exact oz hret (cj2 @i64.eq_1 q3) hleS e
  have q3 : ((T : Int) = 0) = True := eq_true (by omega)
  rw [if_neg (fun h => h h3)] at hy
  by_cases h4 : 65535 < b.lc.length
  · have q4 : ((65535 : Int) < (b.lc.length : Int)) = True := eq_true (by omega)
    have e : y = 15 := by rw [hy, if_pos h4]; rfl
    exact oz hret (cj5 @i64.eq_1 f1 q3 q4 hml) hleS e
  have q4 : ((65535 : Int) < (b.lc.length : Int)) = False := eq_false (by omega)
  rw [if_neg h4] at hy
  refine tq (cj5 f1 @i64.eq_1 q3 q4 hml) ?_; intro Nx hNx Gx hGx
  clear hi hx h00 q6 hil f3
  refine W_loopN b.lc.length (fun i s => s.df = [] ∧ s.fr 1 = .rp [strD b.nm, .seq 1 (b.rg.map sD), .seq 2 (b.ol.map pD), .seq 5 (b.ty.map tyD), .seq 2 (b.lc.map lcD), i64 b.ag, .seq 7 (b.bl.map bkD)] ∧ s.fr 6 = i64 i ∧ H.le s.H ∧ ∃ ob, Gl H 9 1 (((b.lc.take i).map (·.nm)).map sD) (s.fr 5) s.H ob ∧ lcsE b.ty.length [] b.lc = lcsE b.ty.length ((b.lc.take i).map (·.nm)) (b.lc.drop i)) ⟨hdf, f1, rfl, hleS, none, Gl.nil _ _ _ _, rfl⟩ ?_
  clear hdf f1 hleS
  rintro i s hi ⟨hdf, f1, f6, hleS, ob, hg, ha⟩
  have hx : (i : Int).toNat = i := Int.toNat_natCast _
  have h00 : (0 : Int) ≤ (i : Int) := Int.natCast_nonneg _
  by_cases hil : i < b.lc.length
  case neg =>
    have q6 : ((i : Int) < (b.lc.length : Int)) = False := eq_false (by omega)
    rw [List.drop_eq_nil_of_le (by omega), lcsE] at ha
    rw [ha, if_neg (fun h => h rfl : ¬ ((0 : Int) ≠ 0))] at hy
    by_cases h2 : b.ag < 0
    · have q2 : (b.ag < 0) = True := eq_true h2
      have e : y = 3 := by rw [hy, if_pos (.inl h2 : b.ag < 0 ∨ (b.lc.length : Int) < b.ag)]; rfl
      exact oz hret (cj6 @i64.eq_1 f1 f6 hml q6 q2) hleS e
    have q2 : (b.ag < 0) = False := eq_false h2
    by_cases h3 : (b.lc.length : Int) < b.ag
    · have q3 : ((b.lc.length : Int) < b.ag) = True := eq_true h3
      have e : y = 3 := by rw [hy, if_pos (.inr h3 : b.ag < 0 ∨ (b.lc.length : Int) < b.ag)]; rfl
      exact oz hret (cj7 @i64.eq_1 f1 f6 hml q6 q2 q3) hleS e
    have q3 : ((b.lc.length : Int) < b.ag) = False := eq_false h3
    rw [if_neg (by omega : ¬ (b.ag < 0 ∨ (b.lc.length : Int) < b.ag)), if_neg (fun h => h rfl : ¬ ((0 : Int) ≠ 0))] at hy
    by_cases p : b.bl.length = 0
    · have p1 : ((b.bl.length : Int) = 0) = True := eq_true (by omega)
      have e : y = 15 := hy.trans (if_pos (.inl p))
      exact oz hret (cj9 @i64.eq_1 f1 f6 hml q6 q2 q3 p1 hmb) hleS e
    have p1 : ((b.bl.length : Int) = 0) = False := eq_false (by omega)
    by_cases p2 : 65535 < b.bl.length
    · have p3 : ((65535 : Int) < (b.bl.length : Int)) = True := eq_true (by omega)
      have e : y = 15 := hy.trans (if_pos (.inr p2))
      exact oz hret (cj10 @i64.eq_1 f1 f6 hml q6 q2 q3 p1 p3 hmb) hleS e
    have p3 : ((65535 : Int) < (b.bl.length : Int)) = False := eq_false (by omega)
    have e : y = 0 := hy.trans (if_neg (by omega))
    exact oz hret (cj10 @i64.eq_1 f1 f6 hml q6 q2 q3 p1 p3 hmb) hleS e
  have hil' : (i : Int) < (b.lc.length : Int) := by omega
  have q6 : ((i : Int) < (b.lc.length : Int)) = True := eq_true hil'
  have w3 : IntKind.i64.wrap ((i : Int) + 1) = ((i + 1 : Nat) : Int) := by rw [wrap_i64_of (by omega)]; omega
  have hgi := lc_get hil
  have hbi := hls b.lc[i] (List.getElem_mem hil)
  rw [List.drop_eq_getElem_cons hil, lcsE] at ha
  have htk := List.take_succ_eq_append_getElem hil
  obtain ⟨S, hS⟩ : ∃ S, S = (b.lc.take i).map (·.nm) := ⟨_, rfl⟩
  have hSl : S.length = i := by rw [hS, List.length_map, List.length_take]; omega
  have hSs : (b.lc.take (i + 1)).map (·.nm) = S ++ [b.lc[i].nm] := by rw [htk, List.map_append, ← hS]; rfl
  rw [← hS] at hg ha
  obtain ⟨x, hxx⟩ : ∃ x, x = b.lc[i] := ⟨_, rfl⟩
  rw [← hxx] at hgi hbi ha hSs
  clear hxx hS htk
  obtain ⟨x, xt⟩ := x
  simp only at hbi ha hSs
  simp only [lcD, strD] at hgi
  have hid := kisid_N x s.H hbi
  simp only [strD] at hid
  obtain ⟨v, hv⟩ : ∃ v, v = isId x := ⟨_, rfl⟩
  rw [← hv] at hid ha
  have hbad : ∀ z : Int, z ≠ 0 → lcsE b.ty.length [] b.lc = z → y = z := fun z hz h => by rw [h, if_pos hz, if_pos hz] at hy; exact hy
  refine tq (cj10 f1 f6 @i64.eq_1 hml q6 hgi hx h00 hil hil') ?_; intro Nx hNx Gx hGx
  refine hid.mono ?_
  rintro d _ ⟨rfl, hHH⟩
  cases v
  · rw [if_pos rfl] at ha
    have e := hbad 12 (by decide) ha
    rw [hHH] at hleS
    exact oz hret (cj2 @i64.eq_1 @i64.eq_1) hleS e
  rw [if_neg (fun h => by cases h)] at ha
  rw [hHH] at hg hleS
  have hix := kix_at S x (s.fr 5) _ H ob (by unfold big; omega) hg
  simp only [strD] at hix
  by_cases hm : x ∈ S
  · have hm2 := ixS_lt.2 hm
    rw [if_pos hm2] at ha hix
    have e := hbad 21 (by decide) ha
    obtain ⟨n, hn⟩ : ∃ n : Int, n = (ixS S x : Int) := ⟨_, rfl⟩
    rw [← hn] at hix
    have qn : (n ≥ 0) = True := eq_true (by omega)
    refine tq (cj9 f1 f6 @i64.eq_1 hml hgi hx h00 hil hil') ?_; intro Nx hNx Gx hGx
    refine hix.mono ?_
    rintro d _ ⟨rfl, hHH2⟩
    rw [hHH2] at hleS
    exact oz hret (cj2 @i64.eq_1 qn) hleS e
  have hm2 : ¬ ixS S x < S.length := fun h => hm (ixS_lt.1 h)
  rw [if_neg hm2] at ha hix
  refine tq (cj9 f1 f6 @i64.eq_1 hml hgi hx h00 hil hil') ?_; intro Nx hNx Gx hGx
  refine hix.mono ?_
  rintro d _ ⟨rfl, hHH2⟩
  rw [hHH2] at hg hleS
  refine tq @i64.eq_1 ?_; intro Nx hNx Gx hGx
  (try refine W_seq ?_)
  by_cases h2 : xt < 0
  · have q2 : (xt < 0) = True := eq_true h2
    rw [if_pos (by unfold InR; omega)] at ha
    have e := hbad 3 (by decide) ha
    refine W_drawE (fun _ _ _ _ => False) (by kernel_rfl) (by kernel_rfl) (by kernel_rfl) fun Nx hNx => ?_; refine dst (cj10 f1 f6 @i64.eq_1 hml hgi hx h00 hil hil' q2) ?_; intro Nx hNx Gx hGx
    exact oz hret (cj2 @i64.eq_1 @i64.eq_1) hleS e
  have q2 : (xt < 0) = False := eq_false h2
  by_cases h3 : (b.ty.length : Int) ≤ xt
  · have q3 : (xt ≥ (b.ty.length : Int)) = True := eq_true h3
    rw [if_pos (by unfold InR; omega)] at ha
    have e := hbad 3 (by decide) ha
    refine W_drawE (fun _ _ _ _ => False) (by kernel_rfl) (by kernel_rfl) (by kernel_rfl) fun Nx hNx => ?_; refine dst (cj12 f1 f6 @i64.eq_1 hml hgi hx h00 hil hil' q2 q3 hmt) ?_; intro Nx hNx Gx hGx
    exact oz hret (cj2 @i64.eq_1 @i64.eq_1) hleS e
  have q3 : (xt ≥ (b.ty.length : Int)) = False := eq_false h3
  rw [if_neg (by unfold InR; omega)] at ha
  refine W_drawE (fun _ _ _ _ => False) (by kernel_rfl) (by kernel_rfl) (by kernel_rfl) fun Nx hNx => ?_; refine dst (cj12 f1 f6 @i64.eq_1 hml hgi hx h00 hil hil' q2 q3 hmt) ?_; intro Nx hNx Gx hGx
  refine tq (cj9 f1 f6 @i64.eq_1 hml hgi hx h00 hil hil') ?_; intro Nx hNx Gx hGx
  refine apV_grow (e := 9) ty22 rfl ty22 rfl ty9 rfl (by decide) hleS hg (new := [sD x]) (by exact ⟨rfl, rfl⟩) (by rw [List.length_map]; show (_ + 1) * 16 ≤ _; omega) fun d H6 ob6 hg6 hle6 _ => ?_
  refine tq (cj3 f6 @i64.eq_1 w3) ?_; intro Nx hNx Gx hGx
  refine ⟨hil, hdf, f1, rfl, hle6, ob6, ?_, by rw [ha, hSs]⟩
  rw [hSs, List.map_append]; exact hg6
end Go.Proofs.YtgfhgeelfaalmaaGreatDoor
