/- Lemmas and contracts of functions, several texts in one: RC. -/
import Derived.Test.YtgfhgeelfaalmaaGreatDoorK11
import Derived.Test.YtgfhgeelfaalmaaGreatDoorK12
namespace Go.Proofs.YtgfhgeelfaalmaaGreatDoor
open Go.RowKit
set_option maxRecDepth 100000
set_option linter.unusedVariables false
set_option linter.unusedSimpArgs false
open Classical in
noncomputable def subX (l : List (Int × Int)) (n : Int) (ts : List TyS) (a b : Int) : Bool := if InR ts.length a ∧ InR ts.length b then subT l n ts a b else false
theorem subX_f {l : List (Int × Int)} {n : Int} {ts : List TyS} {a b : Int} (h : ¬ (InR ts.length a ∧ InR ts.length b)) : subX l n ts a b = false := if_neg h
theorem subX_t {l : List (Int × Int)} {n : Int} {ts : List TyS} {a b : Int} (ha : InR ts.length a) (hb : InR ts.length b) : subX l n ts a b = subT l n ts a b := if_pos ⟨ha, hb⟩
theorem zip_all_t {f : Int → Int → Bool} {x y : List Int} (h : ∀ j (h : j < x.length) (h' : j < y.length), f x[j] y[j] = true) : ((x.zip y).all fun p => f p.1 p.2) = true := by
  rw [List.all_eq_true]
  intro p hp
  obtain ⟨j, hj, rfl⟩ := List.getElem_of_mem hp
  rw [List.length_zip] at hj
  rw [List.getElem_zip]
  exact h j (by omega) (by omega)
theorem zip_all_f {f : Int → Int → Bool} {x y : List Int} {j : Nat} (h1 : j < x.length) (h2 : j < y.length) (h : f x[j] y[j] = false) : ((x.zip y).all fun p => f p.1 p.2) = false := by
  rw [Bool.eq_false_iff]
  intro hc
  rw [List.all_eq_true] at hc
  have hj : j < (x.zip y).length := by rw [List.length_zip]; omega
  have := hc _ (List.getElem_mem hj)
  rw [List.getElem_zip, h] at this
  cases this
set_option maxHeartbeats 1000000 in
theorem ksub_N (l : List (Int × Int)) (n : Int) (ts : List TyS) (hw : wfT ts) (hin : ∀ p ∈ l, InR n p.1 ∧ InR n p.2) (hn : n ≤ 1000000) (hl : l.length ≤ 1000000) (htl : ts.length ≤ 1000000) (har : ∀ t ∈ ts, t.ar.length ≤ 140737488351232) :
    ∀ (kk : Nat) (a b : Int) (H : Heap), a < kk → b < kk → Does Tryz.prog 93 [.seq 2 (l.map pD), i64 n, .seq 5 (ts.map tyD), i64 a, i64 b] H fun d H' => d = .val (.bool (subX l n ts a b)) ∧ H = H' := by
  intro kk
  induction kk using Nat.strongRecOn with
  | ind kk ih =>
    intro a b H haN hbN
    refine Does.frz (K := fun d => d = .val (.bool (subX l n ts a b))) ?_
    have htyl : (List.map tyD ts).length = ts.length := List.length_map _
    refine does_of _ _ Tryz.func93 rfl rfl Tryz.ntmps93 Tryz.results93 (by simp only [List.length_cons, List.length_nil]; omega) fun w0 g0 Q hret => ?_
    have hleR := Heap.le_refl H
    by_cases h1 : a < 0
    · have p1 : (a < 0) = True := eq_true h1
      have hres := subX_f (l := l) (n := n) (ts := ts) (a := a) (b := b) fun h => by have := h.1.1; omega
      refine tq (cj2 @i64.eq_1 p1) ?_; intro Nx hNx Gx hGx; refine rt hret @i64.eq_1 ?_; exact ⟨_, Heap.le_refl _, hleR, _, frz_refl hleR, by rw [hres]⟩
    have p1 : (a < 0) = False := eq_false h1
    by_cases h2 : (ts.length : Int) ≤ a
    · have p2 : ((ts.length : Int) ≤ a) = True := eq_true h2
      have hres := subX_f (l := l) (n := n) (ts := ts) (a := a) (b := b) fun h => by have := h.1.2; omega
      refine tq (cj4 @i64.eq_1 p1 p2 htyl) ?_; intro Nx hNx Gx hGx; refine rt hret @i64.eq_1 ?_; exact ⟨_, Heap.le_refl _, hleR, _, frz_refl hleR, by rw [hres]⟩
    have p2 : ((ts.length : Int) ≤ a) = False := eq_false h2
    by_cases h3 : b < 0
    · have p3 : (b < 0) = True := eq_true h3
      have hres := subX_f (l := l) (n := n) (ts := ts) (a := a) (b := b) fun h => by have := h.2.1; omega
      refine tq (cj5 @i64.eq_1 p1 p2 p3 htyl) ?_; intro Nx hNx Gx hGx; refine rt hret @i64.eq_1 ?_; exact ⟨_, Heap.le_refl _, hleR, _, frz_refl hleR, by rw [hres]⟩
    have p3 : (b < 0) = False := eq_false h3
    by_cases h4 : (ts.length : Int) ≤ b
    · have p4 : ((ts.length : Int) ≤ b) = True := eq_true h4
      have hres := subX_f (l := l) (n := n) (ts := ts) (a := a) (b := b) fun h => by have := h.2.2; omega
      refine tq (cj6 @i64.eq_1 p1 p2 p3 p4 htyl) ?_; intro Nx hNx Gx hGx; refine rt hret @i64.eq_1 ?_; exact ⟨_, Heap.le_refl _, hleR, _, frz_refl hleR, by rw [hres]⟩
    have p4 : ((ts.length : Int) ≤ b) = False := eq_false h4
    have ha : InR ts.length a := ⟨by omega, by omega⟩
    have hb : InR ts.length b := ⟨by omega, by omega⟩
    have hres0 := (subX_t (l := l) (n := n) ha hb).trans (subT_eq hw ha hb)
    have hga := ty_get ha
    have hgb := ty_get hb
    have wa := wfT_at hw ha
    have wb := wfT_at hw hb
    have hara : (tyAt ts a).ar.length ≤ 140737488351232 := by obtain ⟨h', he⟩ := tyAt_get ha; rw [he]; exact har _ (List.getElem_mem h')
    obtain ⟨t, ht⟩ : ∃ t, t = tyAt ts a := ⟨_, rfl⟩
    obtain ⟨u, hu⟩ : ∃ u, u = tyAt ts b := ⟨_, rfl⟩
    rw [← ht] at hga hres0 wa hara
    rw [← hu] at hgb hres0 wb
    obtain ⟨tk, tm, tr, te, ta⟩ := t
    obtain ⟨uk, um, ur, ue, ua⟩ := u
    simp only [tyD] at hga hgb hres0 wa wb hara
    have h0a : 0 ≤ a := ha.1
    have h0b : 0 ≤ b := hb.1
    have hal : a.toNat < ts.length := by omega
    have hbl : b.toNat < ts.length := by omega
    have hal' : a < (ts.length : Int) := by omega
    have hbl' : b < (ts.length : Int) := by omega
    refine tq (cj14 @i64.eq_1 p1 p2 p3 p4 htyl hga hgb h0a h0b hal hbl hal' hbl') ?_; intro Nx hNx Gx hGx
    intro b11 hb11
    refine hNx _ ?_
    refine frz 11 hb11 ?_
    refine tq (cj10 @i64.eq_1 htyl hga hgb h0a h0b hal hbl hal' hbl') ?_; intro Nx hNx Gx hGx
    intro b12 hb12
    refine hNx _ ?_
    refine frz 12 hb12 ?_
    have hta : (List.map iD ta).length = ta.length := List.length_map _
    have hua : (List.map iD ua).length = ua.length := List.length_map _
    by_cases g1 : tk = uk
    case neg =>
      have q1 : (tk = uk) = False := eq_false g1
      have hres : subX l n ts a b = false := by rw [hres0]; simp [g1]
      refine tq (cj2 @i64.eq_1 q1) ?_; intro Nx hNx Gx hGx; refine rt hret @i64.eq_1 ?_; exact ⟨_, Heap.le_refl _, hleR, _, frz_refl hleR, by rw [hres]⟩
    have q1 : (tk = uk) = True := eq_true g1
    by_cases g2 : tm = um
    case neg =>
      have q2 : (tm = um) = False := eq_false g2
      have hres : subX l n ts a b = false := by rw [hres0]; simp [g2]
      refine tq (cj3 @i64.eq_1 q1 q2) ?_; intro Nx hNx Gx hGx; refine rt hret @i64.eq_1 ?_; exact ⟨_, Heap.le_refl _, hleR, _, frz_refl hleR, by rw [hres]⟩
    have q2 : (tm = um) = True := eq_true g2
    by_cases g3 : ta.length = ua.length
    case neg =>
      have q3 : ((ta.length : Int) = (ua.length : Int)) = False := eq_false (by omega)
      have hres : subX l n ts a b = false := by rw [hres0]; simp [g3]
      refine tq (cj6 @i64.eq_1 q1 q2 q3 hta hua) ?_; intro Nx hNx Gx hGx; refine rt hret @i64.eq_1 ?_; exact ⟨_, Heap.le_refl _, hleR, _, frz_refl hleR, by rw [hres]⟩
    have q3 : ((ta.length : Int) = (ua.length : Int)) = True := eq_true (by omega)
    rw [decide_eq_true g1, decide_eq_true g2, decide_eq_true g3, Bool.true_and, Bool.true_and, Bool.true_and] at hres0
    refine tq (cj6 @i64.eq_1 q1 q2 q3 hta hua) ?_; intro Nx hNx Gx hGx
    refine W_loopN ta.length (fun i s => s.df = [] ∧ s.fr 0 = .seq 2 (l.map pD) ∧ s.fr 1 = i64 n ∧ s.fr 2 = .seq 5 (ts.map tyD) ∧ s.fr 11 = .rp [i64 tk, .val (.bool tm), i64 tr, i64 te, .seq 1 (ta.map iD)] ∧ s.fr 12 = .rp [i64 uk, .val (.bool um), i64 ur, i64 ue, .seq 1 (ua.map iD)] ∧ s.fr 13 = i64 i ∧ s.H = H ∧ ∀ j (h : j < ta.length) (h' : j < ua.length), j < i → subT l n ts ta[j] ua[j] = true) ⟨rfl, rfl, rfl, rfl, rfl, rfl, rfl, rfl, by simp⟩ ?_
    rintro i s hi ⟨hdf, f0, f1, f2, f11, f12, f13, hH, hall⟩
    have hx : (i : Int).toNat = i := Int.toNat_natCast _
    have h00 : (0 : Int) ≤ (i : Int) := Int.natCast_nonneg _
    by_cases hil : i < ta.length
    case pos =>
      have q4 : ((i : Int) < (ta.length : Int)) = True := eq_true (by omega)
      have hiu : i < ua.length := by omega
      have hgi := get_ints hil
      have hgu := get_ints hiu
      have w3 : IntKind.i64.wrap ((i : Int) + 1) = ((i + 1 : Nat) : Int) := by rw [wrap_i64_of (by omega)]; omega
      have hxa := wa.2 ta[i] (List.getElem_mem hil)
      have hya := wb.2 ua[i] (List.getElem_mem hiu)
      have hvx := subX_t (l := l) (n := n) (ts := ts) (a := ta[i]) (b := ua[i]) ⟨hxa.1, by omega⟩ ⟨hya.1, by omega⟩
      have hcall : CallOK Tryz.prog 93 [.seq 2 (l.map pD), i64 n, .seq 5 (ts.map tyD), i64 ta[i], i64 ua[i]] H fun d A => A = Heap.none ∧ d = .val (.bool (subX l n ts ta[i] ua[i])) :=
        callOK_eq fun H'' hle'' => ih (kk - 1) (by omega) ta[i] ua[i] H'' (by omega) (by omega)
      rw [hvx] at hcall
      refine tq (cj5 f11 f13 @i64.eq_1 hta q4) ?_; intro Nx hNx Gx hGx
      obtain ⟨x, hxe⟩ : ∃ x, x = ta[i] := ⟨_, rfl⟩
      obtain ⟨y, hye⟩ : ∃ y, y = ua[i] := ⟨_, rfl⟩
      rw [← hxe] at hgi hcall
      rw [← hye] at hgu hcall
      cases hv : subT l n ts x y with
      | false =>
        rw [hv] at hcall
        refine W_drawE (fun _ _ d A => A = .none ∧ d = .val (.bool false)) (by kernel_rfl) (by kernel_rfl) (by kernel_rfl) fun Nx hNx => ?_; refine dst (cj16 f0 f1 f2 f11 f12 f13 @i64.eq_1 hta hua hgi hgu hx h00 hil hiu hH) ?_; intro Nx hNx Gx hGx
        refine ⟨hcall, hNx _ ?_⟩
        refine tq @i64.eq_1 ?_; intro Nx hNx Gx hGx
        refine rt hret hdf ?_
        have hzf := zip_all_f (f := subT l n ts) hil hiu (by rw [← hxe, ← hye]; exact hv)
        exact ⟨_, Heap.le_refl _, hleR, _, frz_refl hleR, by rw [hres0, hzf, Bool.and_false]⟩
      | true =>
        rw [hv] at hcall
        refine W_drawE (fun _ _ d A => A = .none ∧ d = .val (.bool true)) (by kernel_rfl) (by kernel_rfl) (by kernel_rfl) fun Nx hNx => ?_; refine dst (cj16 f0 f1 f2 f11 f12 f13 @i64.eq_1 hta hua hgi hgu hx h00 hil hiu hH) ?_; intro Nx hNx Gx hGx
        refine ⟨hcall, hNx _ ?_⟩
        refine tq (cj3 f13 @i64.eq_1 w3) ?_; intro Nx hNx Gx hGx
        refine ⟨hil, hdf, f0, f1, f2, f11, f12, rfl, rfl, fun j h h' hj => ?_⟩
        by_cases hje : j = i
        · subst hje; rw [← hxe, ← hye]; exact hv
        · exact hall j h h' (by omega)
    case neg =>
      have q4 : ((i : Int) < (ta.length : Int)) = False := eq_false (by omega)
      have hzt := zip_all_t (f := subT l n ts) (x := ta) (y := ua) fun j h h' => hall j h h' (by omega)
      rw [hzt, Bool.and_true] at hres0
      have hleS : H.le s.H := by rw [hH]; exact hleR
      by_cases h5 : tk = 3
      case neg =>
        have q5 : (tk = 3) = False := eq_false h5
        rw [if_neg h5] at hres0
        refine tq (cj6 f11 f13 @i64.eq_1 hta q4 q5) ?_; intro Nx hNx Gx hGx
        refine rt hret hdf ?_
        exact ⟨_, Heap.le_refl _, hleS, _, frz_refl hleS, by rw [hres0]⟩
      have q5 : (tk = 3) = True := eq_true h5
      rw [if_pos h5] at hres0
      have hea := wa.1 h5
      have heb := wb.1 (g1 ▸ h5)
      have hv1 := subX_t (l := l) (n := n) (ts := ts) (a := te) (b := ue) ⟨hea.1, by omega⟩ ⟨heb.1, by omega⟩
      have hv2 := subX_t (l := l) (n := n) (ts := ts) (a := ue) (b := te) ⟨heb.1, by omega⟩ ⟨hea.1, by omega⟩
      refine tq (cj10 f0 f1 f2 f11 f12 f13 @i64.eq_1 hta q4 q5) ?_; intro Nx hNx Gx hGx
      refine (koutl_N l n tr ur _ hin hn hl).mono ?_
      rintro d _ ⟨rfl, rfl⟩
      cases ho : outlB l n tr ur with
      | false =>
        rw [ho, Bool.false_and] at hres0
        refine tq (cj7 f0 f1 f2 f11 f12 f13 @i64.eq_1) ?_; intro Nx hNx Gx hGx
        refine rt hret hdf ?_
        exact ⟨_, Heap.le_refl _, hleS, _, frz_refl hleS, by rw [hres0]⟩
      | true =>
        rw [ho, Bool.true_and] at hres0
        refine tq (cj7 f0 f1 f2 f11 f12 f13 @i64.eq_1) ?_; intro Nx hNx Gx hGx
        refine (ih (kk - 1) (by omega) te ue _ (by omega) (by omega)).mono ?_
        rintro d _ ⟨rfl, rfl⟩
        rw [hv1]
        cases hs1 : subT l n ts te ue with
        | false =>
          rw [hs1, Bool.false_and] at hres0
          refine tq (cj7 f0 f1 f2 f11 f12 f13 @i64.eq_1) ?_; intro Nx hNx Gx hGx
          refine rt hret hdf ?_
          exact ⟨_, Heap.le_refl _, hleS, _, frz_refl hleS, by rw [hres0]⟩
        | true =>
          rw [hs1, Bool.true_and] at hres0
          by_cases htm : tm = true
          case neg =>
            have htm' : tm = false := by simpa using htm
            rw [htm'] at hres0
            refine tq (cj8 f0 f1 f2 f11 f12 f13 @i64.eq_1 htm') ?_; intro Nx hNx Gx hGx
            refine rt hret hdf ?_
            exact ⟨_, Heap.le_refl _, hleS, _, frz_refl hleS, by rw [hres0]; rfl⟩
          rw [htm] at hres0
          refine tq (cj8 f0 f1 f2 f11 f12 f13 @i64.eq_1 htm) ?_; intro Nx hNx Gx hGx
          refine (ih (kk - 1) (by omega) ue te _ (by omega) (by omega)).mono ?_
          rintro d _ ⟨rfl, rfl⟩
          rw [hv2]
          refine tq (cj8 f0 f1 f2 f11 f12 f13 @i64.eq_1 htm) ?_; intro Nx hNx Gx hGx
          refine rt hret hdf ?_
          exact ⟨_, Heap.le_refl _, hleS, _, frz_refl hleS, by rw [hres0]; rfl⟩
end Go.Proofs.YtgfhgeelfaalmaaGreatDoor
