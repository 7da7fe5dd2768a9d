/- Lemmas and contracts of functions, several texts in one: R9 RA RB. -/
import Derived.Test.YtgfhgeelfaalmaaGreatDoorK11
import Derived.Test.YtgfhgeelfaalmaaGreatDoorK05
namespace Go.Proofs.YtgfhgeelfaalmaaGreatDoor
open Go.RowKit
set_option maxRecDepth 100000
set_option linter.unusedVariables false
set_option linter.unusedSimpArgs false
def up2 {α : Type} (F : Bool → Int → α) (k : Bool) (x : Int) (v : α) : Bool → Int → α := fun k' x' => if k' = k ∧ x' = x then v else F k' x'
theorem up2_same {α : Type} (F : Bool → Int → α) (k : Bool) (x : Int) (v : α) : up2 F k x v k x = v := if_pos ⟨rfl, rfl⟩
theorem up2_ne {α : Type} {F : Bool → Int → α} {k k' : Bool} {x x' : Int} {v : α} (h : ¬ (k' = k ∧ x' = x)) : up2 F k x v k' x' = F k' x' := if_neg h
structure Fam (H0 : Heap) (F : Bool → Int → List Int) (c : Bool → Int → Nat) (dm : Bool → Int → Option D) (H : Heap) : Prop where
  nil : ∀ k x, F k x = [] → dm k x = none
  own : ∀ k x, F k x ≠ [] → ∃ o, dm k x = some (.os (c k x) o 1 0 (F k x).length) ∧ H0 (c k x) = none ∧ H (c k x) = some (.row 3 o 1 ((F k x).map iD))
  inj : ∀ k x k' x', F k x ≠ [] → F k' x' ≠ [] → c k x = c k' x' → k' = k ∧ x' = x
theorem Fam.keep {H0 H H' : Heap} {F : Bool → Int → List Int} {c : Bool → Int → Nat} {dm : Bool → Int → Option D} (h : Fam H0 F c dm H) (hk : ∀ b z, H b = some z → (∃ o els, z = .row 3 o 1 els) → H' b = some z) : Fam H0 F c dm H' where
  nil := h.nil
  own := fun k x hx => by
    obtain ⟨o, h1, h2, h3⟩ := h.own k x hx
    exact ⟨o, h1, h2, hk _ _ h3 ⟨_, _, rfl⟩⟩
  inj := h.inj
theorem Fam.gl {H0 H : Heap} {F : Bool → Int → List Int} {c : Bool → Int → Nat} {dm : Bool → Int → Option D} (h : Fam H0 F c dm H) (k : Bool) (x : Int) :
    ∃ ob, Gl H0 3 1 ((F k x).map iD) ((dm k x).getD (.val (.slice none 0 0))) H ob ∧ (∀ b, ob = some b → ∃ o els, H b = some (.row 3 o 1 els)) ∧ ∀ k' x', F k' x' ≠ [] → ¬ (k' = k ∧ x' = x) → ob ≠ some (c k' x') := by
  by_cases hx : F k x = []
  · exact ⟨none, .inl ⟨rfl, by rw [h.nil k x hx]; rfl, by rw [hx]; rfl⟩, (fun b hb => by cases hb), fun _ _ _ _ e => by cases e⟩
  · obtain ⟨o, h1, h2, h3⟩ := h.own k x hx
    refine ⟨some (c k x), .inr ⟨c k x, o, rfl, by rw [h1, List.length_map]; rfl, h2, h3⟩, fun b hb => ?_, fun k' x' h' hne e => ?_⟩
    · injection hb with hb; subst hb; exact ⟨_, _, h3⟩
    · injection e with e
      exact hne (h.inj k x k' x' hx h' e)
theorem Fam.step {H0 H H' : Heap} {F : Bool → Int → List Int} {c : Bool → Int → Nat} {dm : Bool → Int → Option D} (h : Fam H0 F c dm H) {k : Bool} {x y : Int} {d' : D} {ob' : Option Nat}
    (hg : Gl H0 3 1 ((F k x ++ [y]).map iD) d' H' ob') (hk : ∀ k' x', F k' x' ≠ [] → ¬ (k' = k ∧ x' = x) → H' (c k' x') = H (c k' x') ∧ ob' ≠ some (c k' x')) :
    ∃ c', Fam H0 (up2 F k x (F k x ++ [y])) c' (up2 dm k x (some d')) H' := by
  rcases hg with ⟨_, _, h0⟩ | ⟨b, o, hob, hd, hb0, hb⟩
  · simp at h0
  · refine ⟨up2 c k x b, fun k' x' he => ?_, fun k' x' he => ?_, fun k1 x1 k2 x2 h1 h2 he => ?_⟩
    · by_cases hkx : k' = k ∧ x' = x
      · rw [hkx.1, hkx.2, up2_same] at he; simp at he
      · rw [up2_ne hkx] at he ⊢; exact h.nil k' x' he
    · by_cases hkx : k' = k ∧ x' = x
      · obtain ⟨rfl, rfl⟩ := hkx
        simp only [up2_same]
        exact ⟨o, by rw [hd, List.length_map], hb0, hb⟩
      · rw [up2_ne hkx] at he
        simp only [up2_ne hkx]
        obtain ⟨o', h1, h2, h3⟩ := h.own k' x' he
        exact ⟨o', h1, h2, (hk k' x' he hkx).1.trans h3⟩
    · by_cases e1 : k1 = k ∧ x1 = x <;> by_cases e2 : k2 = k ∧ x2 = x
      · exact ⟨e2.1.trans e1.1.symm, e2.2.trans e1.2.symm⟩
      · rw [up2_ne e2] at h2 he
        rw [e1.1, e1.2, up2_same] at he
        exact absurd (by rw [hob, he]) (hk k2 x2 h2 e2).2
      · rw [up2_ne e1] at h1 he
        rw [e2.1, e2.2, up2_same] at he
        exact absurd (by rw [hob, ← he]) (hk k1 x1 h1 e1).2
      · rw [up2_ne e1] at h1 he
        rw [up2_ne e2] at h2 he
        exact h.inj k1 x1 k2 x2 h1 h2 he
def SPf (l : List (Int × Int)) : Bool → Int → List Int := fun k x => if k = true then succs l x else preds l x
theorem SPf_step (l : List (Int × Int)) (p : Int × Int) : SPf (l ++ [p]) = up2 (up2 (SPf l) true p.1 (SPf l true p.1 ++ [p.2])) false p.2 (SPf l false p.2 ++ [p.1]) := by
  funext k x
  cases k
  · by_cases hx : x = p.2
    · subst hx; rw [up2_same]; simp [SPf, preds]
    · rw [up2_ne (by simp [hx]), up2_ne (by simp)]
      have : ¬ p.2 = x := fun e => hx e.symm
      simp [SPf, preds, this]
  · rw [up2_ne (by simp)]
    by_cases hx : x = p.1
    · subst hx; rw [up2_same]; simp [SPf, succs]
    · rw [up2_ne (by simp [hx])]
      have : ¬ p.1 = x := fun e => hx e.symm
      simp [SPf, succs, this]
theorem SPf_len (l : List (Int × Int)) (k : Bool) (x : Int) : (SPf l k x).length ≤ l.length := by
  cases k <;> simp only [SPf, Bool.false_eq_true, if_false, if_true, succs, preds, List.length_map] <;> exact List.length_filter_le _ _
theorem chkF_in : ∀ {l : List (Int × Int)} {n : Int} {q : Option (Int × Int)}, chkF n q l = 0 → ∀ p ∈ l, InR n p.1 ∧ InR n p.2
  | [], n, q, _, p, hp => by cases hp
  | r :: l, n, q, h, p, hp => by
    simp only [chkF] at h
    split at h
    · cases h
    · split at h
      · cases h
      · split at h
        · rcases List.mem_cons.1 hp with rfl | hp
          · unfold InR; omega
          · exact chkF_in h p hp
        · cases h
theorem checkR_in {l : List (Int × Int)} {n : Int} (h : checkR l n = 0) : l.length ≤ 65535 ∧ ∀ p ∈ l, InR n p.1 ∧ InR n p.2 := by
  unfold checkR at h
  split at h
  · cases h
  · exact ⟨by omega, chkF_in h⟩
def NwI (l : List (Int × Int)) (n : Int) (b1 b2 : Nat) (H : Heap) (i : Nat) (s : St) : Prop :=
  s.df = [] ∧ s.fr 7 = relD n b1 b2 ∧ s.fr 21 = .seq 2 (l.map pD) ∧ s.fr 22 = i64 l.length ∧ s.fr 23 = i64 i ∧ H.le s.H ∧ ∃ m1 m2 c dm, s.H b1 = some (.map m1) ∧ s.H b2 = some (.map m2) ∧ IntM m1 (dm true) ∧ IntM m2 (dm false) ∧ Fam H (SPf (l.take i)) c dm s.H
def NewK (l : List (Int × Int)) (n : Int) (H : Heap) (d : D) (H' : Heap) : Prop := ∃ b1 b2 m1 m2 c dm, d = .tup [relD n b1 b2, i64 0] ∧ H b1 = none ∧ H b2 = none ∧ b1 ≠ b2 ∧ H.le H' ∧ H' b1 = some (.map m1) ∧ H' b2 = some (.map m2) ∧ IntM m1 (dm true) ∧ IntM m2 (dm false) ∧ Fam H (SPf l) c dm H'
set_option maxHeartbeats 1000000 in
theorem new_raw (l : List (Int × Int)) (n : Int) (H : Heap) (hn : n ≤ 9223372036854775807) (hc : checkR l n = 0) : Does Tryz.prog 55 [.seq 2 (l.map pD), i64 n] H (NewK l n H) := by
  have hll : (List.map pD l).length = l.length := List.length_map _
  obtain ⟨hl, hin⟩ := checkR_in hc
  refine does_of _ _ Tryz.func55 rfl rfl Tryz.ntmps55 Tryz.results55 (by simp only [List.length_cons, List.length_nil]; omega) fun w0 g0 Q hret => ?_
  refine tq @i64.eq_1 ?_; intro Nx hNx Gx hGx
  refine (rcheck_N l n _ (by omega)).mono ?_
  rintro d _ ⟨rfl, rfl⟩
  rw [hc]
  refine tq @i64.eq_1 ?_; intro Nx hNx Gx hGx
  intro b1 hb1 b2 hb2 bR hbR
  refine hNx _ ?_
  refine frz 7 hbR ?_
  have h12 : b1 ≠ b2 := Heap.ne_of (Heap.upd_same _ _ _) hb2
  have hb20 : H b2 = none := (Heap.upd_none.1 hb2).2
  refine tq (cj2 @i64.eq_1 hll) ?_; intro Nx hNx Gx hGx
  refine W_loopN l.length (NwI l n b1 b2 H) ⟨rfl, rfl, rfl, rfl, rfl, Heap.le_put (Heap.le_put (Heap.le_refl _) hb1) hb20, [], [], fun _ _ => 0, fun _ _ => none, (Heap.upd_ne h12).trans (Heap.upd_same _ _ _), Heap.upd_same _ _ _, IntM.nil, IntM.nil, ⟨fun _ _ _ => rfl, fun k x h => absurd (by cases k <;> simp [SPf, succs, preds]) h, fun k x _ _ h _ _ => absurd (by cases k <;> simp [SPf, succs, preds]) h⟩⟩ ?_
  rintro i s hi ⟨hdf, f7, f21, f22, f23, hle, m1, m2, c, dm, hm1, hm2, hi1, hi2, hF⟩
  have hx : (i : Int).toNat = i := Int.toNat_natCast _
  have h00 : (0 : Int) ≤ (i : Int) := Int.natCast_nonneg _
  by_cases hil : i < l.length
  case neg =>
    have q1 : ((i : Int) < (l.length : Int)) = False := eq_false (by omega)
    refine tq (cj5 f7 f22 f23 @i64.eq_1 q1) ?_; intro Nx hNx Gx hGx
    refine rt hret hdf ?_
    rw [List.take_of_length_le (by omega)] at hF
    exact ⟨_, Heap.le_refl _, b1, b2, m1, m2, c, dm, rfl, hb1, hb20, h12, hle, hm1, hm2, hi1, hi2, hF⟩
  have q1 : ((i : Int) < (l.length : Int)) = True := eq_true (by omega)
  have hgi := get_pairs hil
  have w3 : IntKind.i64.wrap ((i : Int) + 1) = ((i + 1 : Nat) : Int) := by rw [wrap_i64_of (by omega)]; omega
  obtain ⟨p, hpe⟩ : ∃ p, p = l[i] := ⟨_, rfl⟩
  rw [← hpe] at hgi
  have hstep := SPf_step (l.take i) p
  rw [hpe, ← List.take_succ_eq_append_getElem hil, ← hpe] at hstep
  refine tq (cj10 f21 f22 f23 @i64.eq_1 q1 hgi hx h00 hil hll) ?_; intro Nx hNx Gx hGx
  intro b9 hb9
  refine hNx _ ?_
  refine frz 9 hb9 ?_
  have hbl := SPf_len (l.take i)
  have htl : (l.take i).length ≤ 65535 := by rw [List.length_take]; omega
  have hpR := hin p (hpe ▸ List.getElem_mem hil)
  have hp64 : (-9223372036854775808 ≤ p.1 ∧ p.1 ≤ 9223372036854775807) ∧ (-9223372036854775808 ≤ p.2 ∧ p.2 ≤ 9223372036854775807) := by unfold InR at hpR; omega
  refine W_mid (fun s' => s'.df = [] ∧ s'.fr 7 = relD n b1 b2 ∧ s'.fr 9 = .rp [i64 p.1, i64 p.2] ∧ s'.fr 21 = .seq 2 (l.map pD) ∧ s'.fr 22 = i64 l.length ∧ s'.fr 23 = i64 i ∧ H.le s'.H ∧ ∃ m1 m2 c dm, s'.H b1 = some (.map m1) ∧ s'.H b2 = some (.map m2) ∧ IntM m1 (dm true) ∧ IntM m2 (dm false) ∧ Fam H (up2 (SPf (l.take i)) true p.1 (SPf (l.take i) true p.1 ++ [p.2])) c dm s'.H) ?_ ?_
  · have hgm1 := hi1.get p.1
    have hk1 := hi1.ok (P := Tryz.prog) Tryz.underlying3 hp64.1
    have hb8 := hbl true p.1
    obtain ⟨ob, hg, hobr, hobn⟩ := hF.gl true p.1
    have hob1 : ob ≠ some b1 := fun e => by obtain ⟨o, els, he⟩ := hobr b1 e; rw [hm1] at he; cases he
    have hob2 : ob ≠ some b2 := fun e => by obtain ⟨o, els, he⟩ := hobr b2 e; rw [hm2] at he; cases he
    have fin : ∀ d H6 ob6, Gl H 3 1 ((SPf (l.take i) true p.1).map iD ++ [iD p.2]) d H6 ob6 → H.le H6 → (∀ b z, s.H b = some z → ob ≠ some b → H6 b = some z ∧ ob6 ≠ some b) →
        H6 b1 = some (.map m1) ∧ H.le (H6.upd b1 (.map (mset m1 (.int .i64 p.1) d))) ∧ ∃ m1' m2' c dm, (H6.upd b1 (.map (mset m1 (.int .i64 p.1) d))) b1 = some (.map m1') ∧ (H6.upd b1 (.map (mset m1 (.int .i64 p.1) d))) b2 = some (.map m2') ∧ IntM m1' (dm true) ∧ IntM m2' (dm false) ∧ Fam H (up2 (SPf (l.take i)) true p.1 (SPf (l.take i) true p.1 ++ [p.2])) c dm (H6.upd b1 (.map (mset m1 (.int .i64 p.1) d))) := fun d H6 ob6 hg6 hle6 hp6 => by
      have e1 := (hp6 _ _ hm1 hob1).1
      have e2 := (hp6 _ _ hm2 hob2).1
      rw [show [iD p.2] = [p.2].map iD from rfl, ← List.map_append] at hg6
      obtain ⟨c', hF'⟩ := hF.step hg6 fun k' x' he hne => by
        obtain ⟨o, h1, h2, h3⟩ := hF.own k' x' he
        have := hp6 _ _ h3 (hobn k' x' he hne)
        exact ⟨this.1.trans h3.symm, this.2⟩
      refine ⟨e1, Heap.le_put hle6 hb1, _, m2, c', up2 dm true p.1 (some d), Heap.upd_same _ _ _, (Heap.upd_ne h12.symm).trans e2, (hi1.set hp64.1 d).congr fun x => by simp [up2], hi2.congr fun x => by simp [up2], hF'.keep fun b z hz ⟨o, els, hzr⟩ => ?_⟩
      rw [Heap.upd_ne fun e => by rw [e, e1, hzr] at hz; cases hz]
      exact hz
    cases hdm : dm true p.1 with
    | none =>
      rw [hdm] at hgm1 hg
      refine W_wildE (fun t => t == some 30 || t == some 31 || t == some 32 || t == some 36 || t == some 37 || t == some 38 || t == some 40 || t == some 41) (fun _ => false) (fun _ _ _ _ => False) (fun _ _ _ _ _ => False) (by kernel_rfl) (by kernel_rfl) (by kernel_rfl) (by kernel_rfl) (by kernel_rfl) fun Nx hNx => ?_; refine vcWS_to ?_; have fs := And.intro f7 (And.intro @relD.eq_1 (And.intro @i64.eq_1 (And.intro hm1 hgm1))); refine evD ?_; (first | refine hGx _ ?_ | refine hNx _ ?_ | skip); (try clear fs)
      refine ⟨hk1, ?_⟩
      refine apV_grow (e := 3) ty48 rfl ty48 rfl ty3 rfl (by decide) hle hg (new := [iD p.2]) (by exact ⟨rfl, rfl⟩) (by rw [List.length_map]; show (_ + 1) * 8 ≤ _; omega) fun d H6 ob6 hg6 hle6 hp6 => ?_
      obtain ⟨e1, e2, e3⟩ := fin d H6 ob6 hg6 hle6 hp6
      simp only [e1]
      exact ⟨hk1, hNx _ ⟨hdf, f7, rfl, f21, f22, f23, e2, e3⟩⟩
    | some dv =>
      rw [hdm] at hgm1 hg
      refine W_wildE (fun t => t == some 30 || t == some 31 || t == some 32 || t == some 36 || t == some 37 || t == some 38 || t == some 40 || t == some 41) (fun _ => false) (fun _ _ _ _ => False) (fun _ _ _ _ _ => False) (by kernel_rfl) (by kernel_rfl) (by kernel_rfl) (by kernel_rfl) (by kernel_rfl) fun Nx hNx => ?_; refine vcWS_to ?_; have fs := And.intro f7 (And.intro @relD.eq_1 (And.intro @i64.eq_1 (And.intro hm1 hgm1))); refine evD ?_; (first | refine hGx _ ?_ | refine hNx _ ?_ | skip); (try clear fs)
      refine ⟨hk1, ?_⟩
      refine apV_grow (e := 3) ty48 rfl ty48 rfl ty3 rfl (by decide) hle hg (new := [iD p.2]) (by exact ⟨rfl, rfl⟩) (by rw [List.length_map]; show (_ + 1) * 8 ≤ _; omega) fun d H6 ob6 hg6 hle6 hp6 => ?_
      obtain ⟨e1, e2, e3⟩ := fin d H6 ob6 hg6 hle6 hp6
      simp only [e1]
      exact ⟨hk1, hNx _ ⟨hdf, f7, rfl, f21, f22, f23, e2, e3⟩⟩
  rintro s2 ⟨gdf, g7, g9, g21, g22, g23, gle, M1, M2, C, DM, gm1, gm2, gi1, gi2, gF⟩
  have hsame : up2 (SPf (l.take i)) true p.1 (SPf (l.take i) true p.1 ++ [p.2]) false p.2 = SPf (l.take i) false p.2 := up2_ne (by simp)
  rw [← hsame] at hstep
  obtain ⟨F2, hF2⟩ : ∃ F2, F2 = up2 (SPf (l.take i)) true p.1 (SPf (l.take i) true p.1 ++ [p.2]) := ⟨_, rfl⟩
  rw [← hF2] at gF hstep hsame
  have hgm2 := gi2.get p.2
  have hk2 := gi2.ok (P := Tryz.prog) Tryz.underlying3 hp64.2
  have hb9' := hbl false p.2
  rw [← hsame] at hb9'
  obtain ⟨ob, hg, hobr, hobn⟩ := gF.gl false p.2
  have hob1 : ob ≠ some b1 := fun e => by obtain ⟨o, els, he⟩ := hobr b1 e; rw [gm1] at he; cases he
  have hob2 : ob ≠ some b2 := fun e => by obtain ⟨o, els, he⟩ := hobr b2 e; rw [gm2] at he; cases he
  have fin : ∀ d H6 ob6, Gl H 3 1 ((F2 false p.2).map iD ++ [iD p.1]) d H6 ob6 → H.le H6 → (∀ b z, s2.H b = some z → ob ≠ some b → H6 b = some z ∧ ob6 ≠ some b) →
      H6 b2 = some (.map M2) ∧ H.le (H6.upd b2 (.map (mset M2 (.int .i64 p.2) d))) ∧ ∃ m1' m2' c dm, (H6.upd b2 (.map (mset M2 (.int .i64 p.2) d))) b1 = some (.map m1') ∧ (H6.upd b2 (.map (mset M2 (.int .i64 p.2) d))) b2 = some (.map m2') ∧ IntM m1' (dm true) ∧ IntM m2' (dm false) ∧ Fam H (SPf (l.take (i + 1))) c dm (H6.upd b2 (.map (mset M2 (.int .i64 p.2) d))) := fun d H6 ob6 hg6 hle6 hp6 => by
    have e1 := (hp6 _ _ gm1 hob1).1
    have e2 := (hp6 _ _ gm2 hob2).1
    rw [show [iD p.1] = [p.1].map iD from rfl, ← List.map_append] at hg6
    obtain ⟨c', hF'⟩ := gF.step hg6 fun k' x' he hne => by
      obtain ⟨o, h1, h2, h3⟩ := gF.own k' x' he
      have := hp6 _ _ h3 (hobn k' x' he hne)
      exact ⟨this.1.trans h3.symm, this.2⟩
    rw [← hstep] at hF'
    refine ⟨e2, Heap.le_put hle6 hb20, M1, _, c', up2 DM false p.2 (some d), (Heap.upd_ne h12).trans e1, Heap.upd_same _ _ _, gi1.congr fun x => by simp [up2], (gi2.set hp64.2 d).congr fun x => by simp [up2], hF'.keep fun b z hz ⟨o, els, hzr⟩ => ?_⟩
    rw [Heap.upd_ne fun e => by rw [e, e2, hzr] at hz; cases hz]
    exact hz
  cases hdm : DM false p.2 with
  | none =>
    rw [hdm] at hgm2 hg
    refine W_wildE (fun t => t == some 47 || t == some 48 || t == some 49 || t == some 53 || t == some 54 || t == some 55 || t == some 57 || t == some 58) (fun _ => false) (fun _ _ _ _ => False) (fun _ _ _ _ _ => False) (by kernel_rfl) (by kernel_rfl) (by kernel_rfl) (by kernel_rfl) (by kernel_rfl) fun Nx hNx => ?_; refine vcWS_to ?_; have fs := And.intro g7 (And.intro g9 (And.intro @relD.eq_1 (And.intro @i64.eq_1 (And.intro gm2 hgm2)))); refine evD ?_; (first | refine hGx _ ?_ | refine hNx _ ?_ | skip); (try clear fs)
    refine ⟨hk2, ?_⟩
    refine apV_grow (e := 3) ty48 rfl ty48 rfl ty3 rfl (by decide) gle hg (new := [iD p.1]) (by exact ⟨rfl, rfl⟩) (by rw [List.length_map]; show (_ + 1) * 8 ≤ _; omega) fun d H6 ob6 hg6 hle6 hp6 => ?_
    obtain ⟨e1, e2, e3⟩ := fin d H6 ob6 hg6 hle6 hp6
    simp only [e1]
    refine ⟨hk2, ?_⟩
    refine tq (cj3 g23 @i64.eq_1 w3) ?_; intro Nx hNx Gx hGx
    exact ⟨hil, gdf, g7, g21, g22, rfl, e2, e3⟩
  | some dv =>
    rw [hdm] at hgm2 hg
    refine W_wildE (fun t => t == some 47 || t == some 48 || t == some 49 || t == some 53 || t == some 54 || t == some 55 || t == some 57 || t == some 58) (fun _ => false) (fun _ _ _ _ => False) (fun _ _ _ _ _ => False) (by kernel_rfl) (by kernel_rfl) (by kernel_rfl) (by kernel_rfl) (by kernel_rfl) fun Nx hNx => ?_; refine vcWS_to ?_; have fs := And.intro g7 (And.intro g9 (And.intro @relD.eq_1 (And.intro @i64.eq_1 (And.intro gm2 hgm2)))); refine evD ?_; (first | refine hGx _ ?_ | refine hNx _ ?_ | skip); (try clear fs)
    refine ⟨hk2, ?_⟩
    refine apV_grow (e := 3) ty48 rfl ty48 rfl ty3 rfl (by decide) gle hg (new := [iD p.1]) (by exact ⟨rfl, rfl⟩) (by rw [List.length_map]; show (_ + 1) * 8 ≤ _; omega) fun d H6 ob6 hg6 hle6 hp6 => ?_
    obtain ⟨e1, e2, e3⟩ := fin d H6 ob6 hg6 hle6 hp6
    simp only [e1]
    refine ⟨hk2, ?_⟩
    refine tq (cj3 g23 @i64.eq_1 w3) ?_; intro Nx hNx Gx hGx
    exact ⟨hil, gdf, g7, g21, g22, rfl, e2, e3⟩
def keyS (F : Int → List Int) : Value → D
  | .int _ x => .seq 1 ((F x).map iD)
  | _ => .emp
theorem fam_frz {H H0 H' : Heap} {F : Bool → Int → List Int} {c : Bool → Int → Nat} {dm : Bool → Int → Option D} {k : Bool} {m : List (Value × D)} (hF : Fam H F c dm H') (hi : IntM m (dm k)) (hd : Dom H0 H') (hn : ∀ b o els, H' b = some (.row 3 o 1 els) → H b = none → H0 b = none) :
    (m.map (·.1)).Nodup → ∀ p ∈ m, Frz H0 H' p.2 (keyS (F k) p.1) := fun hnd p hp => by
  obtain ⟨x, hx, he⟩ := hi.keys p hp
  have hg := mget_of_mem hnd hp
  rw [he, hi.get] at hg
  rw [he]
  by_cases hf : F k x = []
  · rw [hF.nil k x hf] at hg; cases hg
  · obtain ⟨o, h1, h2, h3⟩ := hF.own k x hf
    rw [h1] at hg
    injection hg with hg
    rw [← hg]
    have := frz_rowD (k := 0) (n := (F k x).length) hd h3 (hn _ _ _ h3 h2) (by rw [List.length_map]; omega)
    rw [List.drop_zero, List.take_of_length_le (by rw [List.length_map]; exact Nat.le_refl _)] at this
    exact this
theorem fam_int {H H' : Heap} {F : Bool → Int → List Int} {c : Bool → Int → Nat} {dm : Bool → Int → Option D} {k : Bool} {m : List (Value × D)} (hF : Fam H F c dm H') (hi : IntM m (dm k)) : IntM (m.map fun p => (p.1, keyS (F k) p.1)) fun x => optS (F k x) :=
  (hi.mapG (keyS (F k))).congr fun x => by
    unfold optS
    by_cases hf : F k x = []
    · rw [hF.nil k x hf, if_pos hf]; rfl
    · obtain ⟨o, h1, _⟩ := hF.own k x hf
      rw [h1, if_neg hf]; rfl
theorem new_N (l : List (Int × Int)) (n : Int) (H : Heap) (hn : n ≤ 9223372036854775807) (hc : checkR l n = 0) : Does Tryz.prog 55 [.seq 2 (l.map pD), i64 n] H fun d H' => ∃ b1 b2 m1 m2, d = .tup [relD n b1 b2, i64 0] ∧ H b1 = none ∧ H b2 = none ∧ b1 ≠ b2 ∧ H' = (H.upd b1 (.map m1)).upd b2 (.map m2) ∧ RelH l b1 b2 H' ∧ H.le H' :=
  (new_raw l n H hn hc).redesc fun d H' ⟨b1, b2, m1, m2, c, dm, hde, hb1, hb2, hne, hle, hm1, hm2, hi1, hi2, hF⟩ => by
    obtain ⟨H0, hH0⟩ : ∃ H0, H0 = (H.upd b1 (.map (m1.map fun p => (p.1, keyS (SPf l true) p.1)))).upd b2 (.map (m2.map fun p => (p.1, keyS (SPf l false) p.1))) := ⟨_, rfl⟩
    have e2 : H0 b2 = some (.map (m2.map fun p => (p.1, keyS (SPf l false) p.1))) := by rw [hH0, Heap.upd_same]
    have e1 : H0 b1 = some (.map (m1.map fun p => (p.1, keyS (SPf l true) p.1))) := by rw [hH0, Heap.upd_ne hne, Heap.upd_same]
    have e0 : ∀ b, b ≠ b1 → b ≠ b2 → H0 b = H b := fun b h1 h2 => by rw [hH0, Heap.upd_ne h2, Heap.upd_ne h1]
    have hd : Dom H0 H' := fun b hb => by
      rw [e0 b (fun e => by rw [e, hm1] at hb; cases hb) (fun e => by rw [e, hm2] at hb; cases hb)]
      cases hx : H b with
      | none => rfl
      | some x => rw [hle _ _ hx] at hb; cases hb
    have hn0 : ∀ b o els, H' b = some (.row 3 o 1 els) → H b = none → H0 b = none := fun b o els h1 h2 => by
      rw [e0 b (fun e => by rw [e, hm1] at h1; cases h1) (fun e => by rw [e, hm2] at h1; cases h1)]
      exact h2
    have hle0 : H.le H0 := by rw [hH0]; exact Heap.le_put (Heap.le_put (Heap.le_refl _) hb1) hb2
    refine ⟨d, H0, hd, fun w hH => hH.redesc hd fun b x hb => ?_, frz_same hd, b1, b2, _, _, hde, hb1, hb2, hne, hH0, ⟨_, _, e1, fam_int hF hi1, e2, fam_int hF hi2⟩, hle0⟩
    by_cases h1 : b = b1
    · subst h1
      rw [e1] at hb
      injection hb with hb
      exact .inr ⟨m1, keyS (SPf l true), hm1, hb.symm, fam_frz hF hi1 hd hn0⟩
    · by_cases h2 : b = b2
      · subst h2
        rw [e2] at hb
        injection hb with hb
        exact .inr ⟨m2, keyS (SPf l false), hm2, hb.symm, fam_frz hF hi2 hd hn0⟩
      · rw [e0 b h1 h2] at hb
        exact .inl (hle _ _ hb)
noncomputable def subB (l : List (Int × Int)) (n : Int) (ts : List TyS) : Nat → Int → Int → Bool
  | 0, _, _ => false
  | k + 1, a, b =>
    decide ((tyAt ts a).k = (tyAt ts b).k) && (decide ((tyAt ts a).m = (tyAt ts b).m) && (decide ((tyAt ts a).ar.length = (tyAt ts b).ar.length) &&
      ((if (tyAt ts a).k = 3 then outlB l n (tyAt ts a).r (tyAt ts b).r && (subB l n ts k (tyAt ts a).e (tyAt ts b).e && (!(tyAt ts a).m || subB l n ts k (tyAt ts b).e (tyAt ts a).e)) else true) &&
        ((tyAt ts a).ar.zip (tyAt ts b).ar).all fun p => subB l n ts k p.1 p.2)))
theorem subB_fuel {l : List (Int × Int)} {n : Int} {ts : List TyS} (hw : wfT ts) : ∀ (k : Nat) (a b : Int), InR ts.length a → InR ts.length b → a < k → b < k → ∀ k', k ≤ k' → subB l n ts k' a b = subB l n ts k a b
  | 0, a, b, ha, _, hk, _, _, _ => by unfold InR at ha; omega
  | k + 1, a, b, ha, hb, hak, hbk, 0, hk' => by omega
  | k + 1, a, b, ha, hb, hak, hbk, k' + 1, hk' => by
    have wa := wfT_at hw ha
    have wb := wfT_at hw hb
    unfold InR at ha hb
    simp only [subB]
    by_cases h1 : (tyAt ts a).k = (tyAt ts b).k
    case neg => simp [h1]
    congr 1
    congr 1
    congr 1
    have hall : (((tyAt ts a).ar.zip (tyAt ts b).ar).all fun p => subB l n ts k' p.1 p.2) = (((tyAt ts a).ar.zip (tyAt ts b).ar).all fun p => subB l n ts k p.1 p.2) := by
      rw [Bool.eq_iff_iff, List.all_eq_true, List.all_eq_true]
      refine forall_congr' fun p => forall_congr' fun hp => ?_
      have h2 := List.of_mem_zip hp
      have h3 := wa.2 _ h2.1
      have h4 := wb.2 _ h2.2
      rw [subB_fuel hw k p.1 p.2 ⟨h3.1, by omega⟩ ⟨h4.1, by omega⟩ (by omega) (by omega) k' (by omega)]
    rw [hall]
    congr 1
    by_cases h2 : (tyAt ts a).k = 3
    · rw [if_pos h2, if_pos h2]
      have h3 := wa.1 h2
      have h4 := wb.1 (h1 ▸ h2)
      rw [subB_fuel hw k _ _ ⟨h3.1, by omega⟩ ⟨h4.1, by omega⟩ (by omega) (by omega) k' (by omega), subB_fuel hw k _ _ ⟨h4.1, by omega⟩ ⟨h3.1, by omega⟩ (by omega) (by omega) k' (by omega)]
    · rw [if_neg h2, if_neg h2]
noncomputable def subT (l : List (Int × Int)) (n : Int) (ts : List TyS) (a b : Int) : Bool := subB l n ts ts.length a b
theorem subT_eq {l : List (Int × Int)} {n : Int} {ts : List TyS} (hw : wfT ts) {a b : Int} (ha : InR ts.length a) (hb : InR ts.length b) :
    subT l n ts a b = (decide ((tyAt ts a).k = (tyAt ts b).k) && (decide ((tyAt ts a).m = (tyAt ts b).m) && (decide ((tyAt ts a).ar.length = (tyAt ts b).ar.length) &&
      ((if (tyAt ts a).k = 3 then outlB l n (tyAt ts a).r (tyAt ts b).r && (subT l n ts (tyAt ts a).e (tyAt ts b).e && (!(tyAt ts a).m || subT l n ts (tyAt ts b).e (tyAt ts a).e)) else true) &&
        ((tyAt ts a).ar.zip (tyAt ts b).ar).all fun p => subT l n ts p.1 p.2)))) := by
  have h := subB_fuel (l := l) (n := n) hw ts.length a b ha hb (by unfold InR at ha; omega) (by unfold InR at hb; omega) (ts.length + 1) (by omega)
  unfold subT
  rw [← h]
  simp only [subB]
end Go.Proofs.YtgfhgeelfaalmaaGreatDoor
