/- Lemmas and contracts of functions, several texts in one: RD RE. -/
import Derived.Test.YtgfhgeelfaalmaaGreatDoorK16
import Derived.WideKeyPair
import Derived.Test.YtgfhgeelfaalmaaGreatDoorK13
namespace Go.Proofs.YtgfhgeelfaalmaaGreatDoor
open Go.RowKit
set_option maxRecDepth 100000
set_option linter.unusedVariables false
set_option linter.unusedSimpArgs false
def pk (a b : Int) : Value := .agg #[.int .i64 a, .int .i64 b]
theorem pair_arr : Go.WideMaps.ArrKey Tryz.prog 104 3 2 := ⟨Tryz.underlying104, by kernel_rfl, by kernel_rfl, by kernel_rfl⟩
theorem prog_types : ∃ m, (Tryz.prog).types.size = m + 1 := ⟨(Tryz.prog).types.size - 1, by kernel_rfl⟩
theorem wf_i64 {a : Int} (h : -9223372036854775808 ≤ a ∧ a ≤ 9223372036854775807) : (Lit.int .i64 a).wf = true := by simp [Lit.wf, IntKind.min, IntKind.max, IntKind.signed, IntKind.bits]; omega
theorem keyOf_pk {a b : Int} (ha : I64 a) (hb : I64 b) : ∃ l, keyOf Tryz.prog 104 (pk a b) = some l :=
  ⟨_, Go.WideMaps.keyOf_pair pair_arr Tryz.underlying3 prog_types (wf_i64 ha) (wf_i64 hb)⟩
structure Memo (M : List (Value × D)) (f : Int → Int → Bool) : Prop where
  keys : ∀ p ∈ M, ∃ a b, I64 a ∧ I64 b ∧ p.1 = pk a b
  val : ∀ a b d, mget M (pk a b) = some d → d = .val (.bool (f a b))
theorem Memo.nil (f : Int → Int → Bool) : Memo [] f := ⟨(fun p hp => by cases hp), fun a b d h => by cases h⟩
theorem Memo.ok {M : List (Value × D)} {f : Int → Int → Bool} (h : Memo M f) {a b : Int} (ha : I64 a) (hb : I64 b) : kOK Tryz.prog 104 M (pk a b) :=
  ⟨Go.Maps.Keyed.of_law pair_arr.law, keyOf_pk ha hb, fun p hp => by obtain ⟨x, y, hx, hy, e⟩ := h.keys p hp; rw [e]; exact keyOf_pk hx hy⟩
theorem Memo.set {M : List (Value × D)} {f : Int → Int → Bool} (h : Memo M f) {a b : Int} (ha : I64 a) (hb : I64 b) : Memo (mset M (pk a b) (.val (.bool (f a b)))) f where
  keys := fun p hp => by
    rcases mset_mem hp with rfl | hp
    · exact ⟨a, b, ha, hb, rfl⟩
    · exact h.keys p hp
  val := fun x y d hd => by
    by_cases e : pk a b = pk x y
    · have e' : a = x ∧ b = y := by simpa [pk] using e
      obtain ⟨rfl, rfl⟩ := e'
      rw [mget_mset_same] at hd
      injection hd with hd
      exact hd.symm
    · rw [mget_mset_ne _ _ e] at hd
      exact h.val x y d hd
theorem all_take_f {α : Type} {p : α → Bool} {l : List α} {i : Nat} (h : (l.take i).all p = false) : l.all p = false := by
  rw [Bool.eq_false_iff] at h ⊢
  intro hc
  apply h
  rw [List.all_eq_true] at hc ⊢
  exact fun x hx => hc x (List.mem_of_mem_take hx)
theorem relH_upd {l : List (Int × Int)} {b1 b2 bm : Nat} {H : Heap} {x : HObj} (hR : RelH l b1 b2 H) (h1 : bm ≠ b1) (h2 : bm ≠ b2) : RelH l b1 b2 (H.upd bm x) := by
  obtain ⟨m1, m2, e1, e2, e3, e4⟩ := hR
  exact ⟨m1, m2, (Heap.upd_ne h1.symm).trans e1, e2, (Heap.upd_ne h2.symm).trans e3, e4⟩
set_option maxHeartbeats 1000000 in
theorem sub1_N (l : List (Int × Int)) (n : Int) (ts : List TyS) (b1 b2 bm bf : Nat) (hw : wfT ts) (hin : ∀ p ∈ l, InR n p.1 ∧ InR n p.2) (hn : n ≤ 1000000) (hl : l.length ≤ 1000000) (htl : ts.length ≤ 1000000) (har : ∀ t ∈ ts, t.ar.length ≤ 140737488351232) (hbm1 : bm ≠ b1) (hbm2 : bm ≠ b2) (hbmf : bm ≠ bf) :
    ∀ (kk : Nat) (a b : Int) (M : List (Value × D)) (H : Heap), InR ts.length a → InR ts.length b → a < kk → b < kk → RelH l b1 b2 H → H bf = some (.row 131 0 1 [[.fn 126 [.rp [.val (.map (some bm))], .rp [.seq 5 (ts.map tyD)], .rp [relD n b1 b2], .ep bf 0 1 0 0]]]) → H bm = some (.map M) → Memo M (subT l n ts) →
      Does Tryz.prog 126 [i64 a, i64 b, .rp [.val (.map (some bm))], .rp [.seq 5 (ts.map tyD)], .rp [relD n b1 b2], .ep bf 0 1 0 0] H fun d H' => d = .val (.bool (subT l n ts a b)) ∧ ∃ M', H' = H.upd bm (.map M') ∧ Memo M' (subT l n ts) := by
  intro kk
  induction kk using Nat.strongRecOn with
  | ind kk ih =>
    intro a b M H ha hb hak hbk hR hHf hHm hM
    have htyl : (List.map tyD ts).length = ts.length := List.length_map _
    have ha64 : I64 a := by unfold InR at ha; unfold I64; omega
    have hb64 : I64 b := by unfold InR at hb; unfold I64; omega
    have hkk := hM.ok ha64 hb64
    have hHH : H.upd bm (.map M) = H := by
      funext x
      by_cases e : x = bm
      · rw [e, Heap.upd_same, hHm]
      · rw [Heap.upd_ne e]
    refine does_of _ _ Tryz.func126 rfl rfl Tryz.ntmps126 Tryz.results126 (by simp only [List.length_cons, List.length_nil]; omega) fun w0 g0 Q hret => ?_
    simp only [pk] at hkk
    cases hmg : mget M (pk a b) with
    | some d =>
      have hv := hM.val a b d hmg
      subst hv
      simp only [pk] at hmg
      refine tq (cj3 @i64.eq_1 hHm hmg) ?_; intro Nx hNx Gx hGx
      refine ⟨hkk, ?_⟩
      refine tq @i64.eq_1 ?_; intro Nx hNx Gx hGx
      refine rt hret @i64.eq_1 ?_
      exact ⟨_, Heap.le_refl _, M, hHH.symm, hM⟩
    | none =>
      simp only [pk] at hmg
      refine tq (cj3 @i64.eq_1 hHm hmg) ?_; intro Nx hNx Gx hGx
      refine ⟨hkk, ?_⟩
      have hga := ty_get ha
      have hgb := ty_get hb
      have wa := wfT_at hw ha
      have wb := wfT_at hw hb
      have hara : (tyAt ts a).ar.length ≤ 140737488351232 := by obtain ⟨h', he⟩ := tyAt_get ha; rw [he]; exact har _ (List.getElem_mem h')
      have hres := subT_eq (l := l) (n := n) hw ha hb
      obtain ⟨t, ht⟩ : ∃ t, t = tyAt ts a := ⟨_, rfl⟩
      obtain ⟨u, hu⟩ : ∃ u, u = tyAt ts b := ⟨_, rfl⟩
      rw [← ht] at hga hres wa hara
      rw [← hu] at hgb hres wb
      obtain ⟨tk, tm, tr, te, ta⟩ := t
      obtain ⟨uk, um, ur, ue, ua⟩ := u
      simp only [tyD] at hga hgb hres wa wb hara
      have h0a : 0 ≤ a := ha.1
      have h0b : 0 ≤ b := hb.1
      have hal : a.toNat < ts.length := by unfold InR at ha; omega
      have hbl : b.toNat < ts.length := by unfold InR at hb; omega
      have hal' : a < (ts.length : Int) := ha.2
      have hbl' : b < (ts.length : Int) := hb.2
      refine tq (cj3 @i64.eq_1 hHm hmg) ?_; intro Nx hNx Gx hGx
      refine W_wildE (fun t => t == some 24 || t == some 26 || t == some 27 || t == some 28 || t == some 30 || t == some 31) (fun _ => false) (fun _ _ _ _ => False) (fun _ _ _ _ _ => False) (by kernel_rfl) (by kernel_rfl) (by kernel_rfl) (by kernel_rfl) (by kernel_rfl) fun Nx hNx => ?_; refine vcWS_to ?_; have fs := And.intro @i64.eq_1 (And.intro htyl (And.intro hga (And.intro hgb (And.intro h0a (And.intro h0b (And.intro hal (And.intro hbl (And.intro hal' hbl')))))))); refine evD ?_; (first | refine hGx _ ?_ | refine hNx _ ?_ | skip); (try clear fs)
      intro b11 hb11 b12 hb12
      have hne : b11 ≠ b12 := Heap.ne_of (Heap.upd_same _ _ _) hb12
      have hb120 : H b12 = none := (Heap.upd_none.1 hb12).2
      simp only [Heap.upd_ne hne, Heap.upd_ne hne.symm, Heap.upd_same, List.getElem?_cons_zero, List.set_cons_zero, List.drop]
      refine ⟨trivial, trivial, by decide, trivial, trivial, by decide, hNx _ ?_⟩
      refine W_frzp 11 rfl ((Heap.upd_ne hne).trans (Heap.upd_same _ _ _)) rfl ?_
      refine W_frzp 12 rfl ((Heap.del_ne hne.symm).trans (Heap.upd_same _ _ _)) rfl ?_
      refine W_less H (fun x z hz => ?_) ?_
      · have e1 : x ≠ b11 := fun e => by rw [e, hb11] at hz; cases hz
        have e2 : x ≠ b12 := fun e => by rw [e, hb120] at hz; cases hz
        show ((((((H.upd b11 _).upd b12 _).upd b11 _).upd b12 _).del b11).del b12) x = _
        rw [Heap.del_ne e2, Heap.del_ne e1, Heap.upd_ne e2, Heap.upd_ne e1, Heap.upd_ne e2, Heap.upd_ne e1]
        exact hz
      obtain ⟨P1, hP1⟩ : ∃ P1, P1 = (decide (tk = uk) && (decide (tm = um) && decide (ta.length = ua.length))) := ⟨_, rfl⟩
      obtain ⟨Kp, hKp⟩ : ∃ Kp, Kp = (if tk = 3 then outlB l n tr ur && (subT l n ts te ue && (!tm || subT l n ts ue te)) else true) := ⟨_, rfl⟩
      rw [← hKp] at hres
      have hres2 : subT l n ts a b = ((P1 && Kp) && (ta.zip ua).all fun p => subT l n ts p.1 p.2) := by rw [hres, hP1]; simp only [Bool.and_assoc]
      have hta : (List.map iD ta).length = ta.length := List.length_map _
      have hua : (List.map iD ua).length = ua.length := List.length_map _
      refine W_mid (fun s => s.df = [] ∧ s.fr 0 = i64 a ∧ s.fr 1 = i64 b ∧ s.fr 2 = .rp [.val (.map (some bm))] ∧ s.fr 3 = .rp [.seq 5 (ts.map tyD)] ∧ s.fr 4 = .rp [relD n b1 b2] ∧ s.fr 5 = .ep bf 0 1 0 0 ∧ s.fr 9 = .val (.bool P1) ∧ s.fr 11 = .rp [i64 tk, .val (.bool tm), i64 tr, i64 te, .seq 1 (ta.map iD)] ∧ s.fr 12 = .rp [i64 uk, .val (.bool um), i64 ur, i64 ue, .seq 1 (ua.map iD)] ∧ s.H = H) ?_ ?_
      · simp only [St.frzp, List.drop]
        by_cases g1 : tk = uk
        case neg =>
          have q1 : (tk = uk) = False := eq_false g1
          refine tq (cj2 @i64.eq_1 q1) ?_; intro Nx hNx Gx hGx
          exact ⟨rfl, rfl, rfl, rfl, rfl, rfl, rfl, by rw [hP1, decide_eq_false g1]; rfl, rfl, rfl, rfl⟩
        have q1 : (tk = uk) = True := eq_true g1
        by_cases g2 : tm = um
        case neg =>
          have q2 : (tm = um) = False := eq_false g2
          refine tq (cj3 @i64.eq_1 q1 q2) ?_; intro Nx hNx Gx hGx
          exact ⟨rfl, rfl, rfl, rfl, rfl, rfl, rfl, by rw [hP1, decide_eq_true g1, decide_eq_false g2]; rfl, rfl, rfl, rfl⟩
        have q2 : (tm = um) = True := eq_true g2
        by_cases g3 : ta.length = ua.length
        · have q3 : ((ta.length : Int) = (ua.length : Int)) = True := eq_true (by omega)
          refine tq (cj6 @i64.eq_1 q1 q2 q3 hta hua) ?_; intro Nx hNx Gx hGx
          exact ⟨rfl, rfl, rfl, rfl, rfl, rfl, rfl, by rw [hP1, decide_eq_true g1, decide_eq_true g2, decide_eq_true g3]; rfl, rfl, rfl, rfl⟩
        · have q3 : ((ta.length : Int) = (ua.length : Int)) = False := eq_false (by omega)
          refine tq (cj6 @i64.eq_1 q1 q2 q3 hta hua) ?_; intro Nx hNx Gx hGx
          exact ⟨rfl, rfl, rfl, rfl, rfl, rfl, rfl, by rw [hP1, decide_eq_true g1, decide_eq_true g2, decide_eq_false g3]; rfl, rfl, rfl, rfl⟩
      rintro s ⟨hdf, f0, f1, f2, f3, f4, f5, f9, f11, f12, hH⟩
      refine W_mid (fun s => s.df = [] ∧ s.fr 0 = i64 a ∧ s.fr 1 = i64 b ∧ s.fr 2 = .rp [.val (.map (some bm))] ∧ s.fr 3 = .rp [.seq 5 (ts.map tyD)] ∧ s.fr 4 = .rp [relD n b1 b2] ∧ s.fr 5 = .ep bf 0 1 0 0 ∧ s.fr 9 = .val (.bool (P1 && Kp)) ∧ s.fr 11 = .rp [i64 tk, .val (.bool tm), i64 tr, i64 te, .seq 1 (ta.map iD)] ∧ s.fr 12 = .rp [i64 uk, .val (.bool um), i64 ur, i64 ue, .seq 1 (ua.map iD)] ∧ ∃ M, s.H = H.upd bm (.map M) ∧ Memo M (subT l n ts)) ?_ ?_
      · cases hp1 : P1 with
        | false =>
          rw [hp1] at f9
          refine tq (cj3 f9 f11 @i64.eq_1) ?_; intro Nx hNx Gx hGx
          exact ⟨hdf, f0, f1, f2, f3, f4, f5, f9, f11, f12, M, hH.trans hHH.symm, hM⟩
        | true =>
          rw [hp1] at f9 hP1
          have g1 : tk = uk := by
            have := hP1.symm
            simp only [Bool.and_eq_true, decide_eq_true_eq] at this
            exact this.1
          by_cases h5 : tk = 3
          case neg =>
            have q5 : (tk = 3) = False := eq_false h5
            rw [if_neg h5] at hKp
            refine tq (cj4 f9 f11 @i64.eq_1 q5) ?_; intro Nx hNx Gx hGx
            exact ⟨hdf, f0, f1, f2, f3, f4, f5, by rw [hKp]; exact f9, f11, f12, M, hH.trans hHH.symm, hM⟩
          have q5 : (tk = 3) = True := eq_true h5
          rw [if_pos h5] at hKp
          have hea := wa.1 h5
          have heb := wb.1 (g1 ▸ h5)
          have hie : InR ts.length te := ⟨hea.1, by omega⟩
          have hiu : InR ts.length ue := ⟨heb.1, by omega⟩
          refine tq (cj7 f4 f9 f11 f12 @i64.eq_1 q5 hH) ?_; intro Nx hNx Gx hGx
          refine (outl_N l n tr ur b1 b2 H hR hin hn hl).mono ?_
          rintro d _ ⟨rfl, rfl⟩
          cases ho : outlB l n tr ur with
          | false =>
            rw [ho, Bool.false_and] at hKp
            refine tq (cj4 @i64.eq_1 f9 f11 f12) ?_; intro Nx hNx Gx hGx
            exact ⟨hdf, f0, f1, f2, f3, f4, f5, by rw [hKp]; rfl, f11, f12, M, hHH.symm, hM⟩
          | true =>
            rw [ho, Bool.true_and] at hKp
            refine tq (cj6 @i64.eq_1 f5 f9 f11 f12 hHf) ?_; intro Nx hNx Gx hGx
            refine (ih (kk - 1) (by omega) te ue M H hie hiu (by omega) (by omega) hR hHf hHm hM).mono ?_
            rintro d _ ⟨rfl, M2, rfl, hM2⟩
            cases hs1 : subT l n ts te ue with
            | false =>
              rw [hs1, Bool.false_and] at hKp
              refine tq (cj5 @i64.eq_1 f5 f9 f11 f12) ?_; intro Nx hNx Gx hGx
              exact ⟨hdf, f0, f1, f2, f3, f4, f5, by rw [hKp]; rfl, f11, f12, M2, rfl, hM2⟩
            | true =>
              rw [hs1, Bool.true_and] at hKp
              by_cases htm : tm = true
              case neg =>
                have htm' : tm = false := by simpa using htm
                rw [htm'] at hKp
                rw [htm'] at f11
                refine tq (cj5 @i64.eq_1 f5 f9 f11 f12) ?_; intro Nx hNx Gx hGx
                exact ⟨hdf, f0, f1, f2, f3, f4, f5, by rw [hKp]; rfl, by rw [htm']; exact f11, f12, M2, rfl, hM2⟩
              rw [htm] at hKp
              rw [htm] at f11
              have hHf2 : (H.upd bm (.map M2)) bf = some (.row 131 0 1 [[.fn 126 [.rp [.val (.map (some bm))], .rp [.seq 5 (ts.map tyD)], .rp [relD n b1 b2], .ep bf 0 1 0 0]]]) := (Heap.upd_ne hbmf.symm).trans hHf
              refine tq (cj6 @i64.eq_1 f5 f9 f11 f12 hHf2) ?_; intro Nx hNx Gx hGx
              refine (ih (kk - 1) (by omega) ue te M2 _ hiu hie (by omega) (by omega) (relH_upd hR hbm1 hbm2) hHf2 (Heap.upd_same _ _ _) hM2).mono ?_
              rintro d _ ⟨rfl, M3, rfl, hM3⟩
              refine tq (cj5 @i64.eq_1 f5 f9 f11 f12) ?_; intro Nx hNx Gx hGx
              exact ⟨hdf, f0, f1, f2, f3, f4, f5, by rw [hKp]; rfl, by rw [htm]; exact f11, f12, M3, rfl, hM3⟩
      rintro s ⟨hdf, f0, f1, f2, f3, f4, f5, f9, f11, f12, hM'⟩
      refine tq @i64.eq_1 ?_; intro Nx hNx Gx hGx
      refine W_loopN ta.length (fun i s => s.df = [] ∧ s.fr 0 = i64 a ∧ s.fr 1 = i64 b ∧ s.fr 2 = .rp [.val (.map (some bm))] ∧ s.fr 3 = .rp [.seq 5 (ts.map tyD)] ∧ s.fr 4 = .rp [relD n b1 b2] ∧ s.fr 5 = .ep bf 0 1 0 0 ∧ s.fr 9 = .val (.bool ((P1 && Kp) && ((ta.zip ua).take i).all fun p => subT l n ts p.1 p.2)) ∧ s.fr 11 = .rp [i64 tk, .val (.bool tm), i64 tr, i64 te, .seq 1 (ta.map iD)] ∧ s.fr 12 = .rp [i64 uk, .val (.bool um), i64 ur, i64 ue, .seq 1 (ua.map iD)] ∧ s.fr 13 = i64 i ∧ ∃ M, s.H = H.upd bm (.map M) ∧ Memo M (subT l n ts)) ⟨hdf, f0, f1, f2, f3, f4, f5, by rw [List.take_zero, List.all_nil, Bool.and_true]; exact f9, f11, f12, rfl, hM'⟩ ?_
      rintro i s2 hi ⟨hdf2, f0, f1, f2, f3, f4, f5, f9, f11, f12, f13, M2, hH2, hM2⟩
      have hx : (i : Int).toNat = i := Int.toNat_natCast _
      have h00 : (0 : Int) ≤ (i : Int) := Int.natCast_nonneg _
      have hkk2 := hM2.ok ha64 hb64
      simp only [pk] at hkk2
      have hHm2 : (H.upd bm (.map M2)) bm = some (.map M2) := Heap.upd_same _ _ _
      cases hv : ((P1 && Kp) && ((ta.zip ua).take i).all fun p => subT l n ts p.1 p.2) with
      | false =>
        rw [hv] at f9
        have hfin : subT l n ts a b = false := by
          rw [hres2]
          cases hpk : (P1 && Kp) with
          | false => rfl
          | true => rw [hpk, Bool.true_and] at hv; rw [all_take_f hv]; rfl
        refine tq (cj11 f0 f1 f2 f9 f11 f13 @i64.eq_1 hta hH2 hfin hHm2) ?_; intro Nx hNx Gx hGx; refine ⟨hkk2, ?_⟩; refine tq (cj2 f9 @i64.eq_1) ?_; intro Nx hNx Gx hGx; refine rt hret hdf2 ?_; have hset := hM2.set ha64 hb64; rw [hfin] at hset; simp only [pk] at hset; exact ⟨_, Heap.le_refl _, (by first | rfl | trivial | rw [hfin]), _, (by first | rfl | exact upd_upd _ _ _ _), hset⟩
      | true =>
        rw [hv] at f9
        have hvb := hv
        rw [Bool.and_eq_true] at hvb
        have hpk := hvb.1
        rw [Bool.and_eq_true] at hpk
        have hlen : ta.length = ua.length := by
          have := hpk.1
          rw [hP1] at this
          simp only [Bool.and_eq_true, decide_eq_true_eq] at this
          exact this.2.2
        have hzl : (ta.zip ua).length = ta.length := by rw [List.length_zip]; omega
        by_cases hil : i < ta.length
        case neg =>
          have q4 : ((i : Int) < (ta.length : Int)) = False := eq_false (by omega)
          have hfin : subT l n ts a b = true := by
            rw [List.take_of_length_le (by omega)] at hv
            rw [hres2, hv]
          refine tq (cj12 f0 f1 f2 f9 f11 f13 @i64.eq_1 hta hH2 hfin hHm2 q4) ?_; intro Nx hNx Gx hGx; refine ⟨hkk2, ?_⟩; refine tq (cj2 f9 @i64.eq_1) ?_; intro Nx hNx Gx hGx; refine rt hret hdf2 ?_; have hset := hM2.set ha64 hb64; rw [hfin] at hset; simp only [pk] at hset; exact ⟨_, Heap.le_refl _, (by first | rfl | trivial | rw [hfin]), _, (by first | rfl | exact upd_upd _ _ _ _), hset⟩
        have q4 : ((i : Int) < (ta.length : Int)) = True := eq_true (by omega)
        have hiu : i < ua.length := by omega
        have hgi := get_ints hil
        have hgu := get_ints hiu
        have w3 : IntKind.i64.wrap ((i : Int) + 1) = ((i + 1 : Nat) : Int) := by rw [wrap_i64_of (by omega)]; omega
        have hxa := wa.2 ta[i] (List.getElem_mem hil)
        have hya := wb.2 ua[i] (List.getElem_mem hiu)
        have hHf2 : (H.upd bm (.map M2)) bf = some (.row 131 0 1 [[.fn 126 [.rp [.val (.map (some bm))], .rp [.seq 5 (ts.map tyD)], .rp [relD n b1 b2], .ep bf 0 1 0 0]]]) := (Heap.upd_ne hbmf.symm).trans hHf
        have hcall := ih (kk - 1) (by omega) ta[i] ua[i] M2 _ ⟨hxa.1, by unfold InR at ha; omega⟩ ⟨hya.1, by unfold InR at hb; omega⟩ (by omega) (by omega) (relH_upd hR hbm1 hbm2) hHf2 hHm2 hM2
        have hnext : ((P1 && Kp) && ((ta.zip ua).take (i + 1)).all fun p => subT l n ts p.1 p.2) = subT l n ts ta[i] ua[i] := by
          rw [List.take_succ_eq_append_getElem (by omega), List.all_append, ← Bool.and_assoc, hv, Bool.true_and, List.getElem_zip]
          simp
        refine tq (cj6 f9 f11 f13 @i64.eq_1 hta q4) ?_; intro Nx hNx Gx hGx
        obtain ⟨x, hxe⟩ : ∃ x, x = ta[i] := ⟨_, rfl⟩
        obtain ⟨y, hye⟩ : ∃ y, y = ua[i] := ⟨_, rfl⟩
        rw [← hxe] at hgi
        rw [← hye] at hgu
        rw [← hxe, ← hye] at hcall hnext
        refine W_wildE (fun _ => false) (fun t => decide (t = some 107)) (fun _ _ _ _ => False) (fun _ _ H0 d H' => d = .val (.bool (subT l n ts x y)) ∧ ∃ M', H' = H0.upd bm (.map M') ∧ Memo M' (subT l n ts)) (by kernel_rfl) (by kernel_rfl) (by kernel_rfl) (by kernel_rfl) (by kernel_rfl) fun Nx hNx => ?_; refine vcWS_to ?_; have fs := And.intro f5 (And.intro f9 (And.intro f11 (And.intro f12 (And.intro f13 (And.intro @i64.eq_1 (And.intro hta (And.intro hua (And.intro hgi (And.intro hgu (And.intro hx (And.intro h00 (And.intro hil (And.intro hiu (And.intro hH2 hHf2)))))))))))))); refine evD ?_; (first | refine hGx _ ?_ | refine hNx _ ?_ | skip); (try clear fs)
        refine ⟨hcall.mono (fun d H' ⟨e1, M', e2, e3⟩ => ⟨e1, M', e2.trans (upd_upd _ _ _ _), e3⟩), ?_⟩
        rintro d _ ⟨rfl, M3, rfl, hM3⟩
        refine hNx _ ?_
        refine tq (cj3 f13 @i64.eq_1 w3) ?_; intro Nx hNx Gx hGx
        exact ⟨hil, hdf2, f0, f1, f2, f3, f4, f5, by rw [hnext]; rfl, f11, f12, rfl, M3, rfl, hM3⟩
set_option maxHeartbeats 1000000 in
theorem sub_N (l : List (Int × Int)) (n : Int) (ts : List TyS) (b1 b2 : Nat) (H : Heap) (hw : wfT ts) (hin : ∀ p ∈ l, InR n p.1 ∧ InR n p.2) (hn : n ≤ 1000000) (hl : l.length ≤ 1000000) (htl : ts.length ≤ 1000000) (har : ∀ t ∈ ts, t.ar.length ≤ 140737488351232) (hR : RelH l b1 b2 H) (a b : Int) :
    Does Tryz.prog 113 [relD n b1 b2, .seq 5 (ts.map tyD), i64 a, i64 b] H fun d H' => d = .val (.bool (subX l n ts a b)) ∧ H = H' := by
  refine Does.frz (K := fun d => d = .val (.bool (subX l n ts a b))) ?_
  have htyl : (List.map tyD ts).length = ts.length := List.length_map _
  refine does_of _ _ Tryz.func113 rfl rfl Tryz.ntmps113 Tryz.results113 (by simp only [List.length_cons, List.length_nil]; omega) fun w0 g0 Q hret => ?_
  refine tq (cj2 @i64.eq_1 htyl) ?_; intro Nx hNx Gx hGx
  intro c4 hc4 c5 hc5
  have hne : c4 ≠ c5 := Heap.ne_of (Heap.upd_same _ _ _) hc5
  have hc50 : H c5 = none := (Heap.upd_none.1 hc5).2
  refine hNx _ ?_
  refine W_frzp 4 rfl ((Heap.upd_ne hne).trans (Heap.upd_same _ _ _)) rfl ?_
  refine W_frzp 5 rfl ((Heap.del_ne hne.symm).trans (Heap.upd_same _ _ _)) rfl ?_
  refine W_less H (fun x z hz => ?_) ?_
  · have e1 : x ≠ c4 := fun e => by rw [e, hc4] at hz; cases hz
    have e2 : x ≠ c5 := fun e => by rw [e, hc50] at hz; cases hz
    show ((((H.upd c4 _).upd c5 _).del c4).del c5) x = _
    rw [Heap.del_ne e2, Heap.del_ne e1, Heap.upd_ne e2, Heap.upd_ne e1]
    exact hz
  simp only [St.frzp, List.drop]
  by_cases h1 : min a b < 0
  · have p1 : (min a b < 0) = True := eq_true h1
    refine tq (cj3 @i64.eq_1 @relD.eq_1 p1) ?_; intro Nx hNx Gx hGx
    refine rt hret @i64.eq_1 ?_
    exact ⟨_, Heap.le_refl _, Heap.le_refl _, _, frz_refl (Heap.le_refl _), by rw [subX_f fun h => by have := h.1.1; have := h.2.1; omega]⟩
  have p1 : (min a b < 0) = False := eq_false h1
  by_cases h2 : (ts.length : Int) ≤ max a b
  · have p2 : ((ts.length : Int) ≤ max a b) = True := eq_true h2
    refine tq (cj5 @i64.eq_1 @relD.eq_1 p1 p2 htyl) ?_; intro Nx hNx Gx hGx
    refine rt hret @i64.eq_1 ?_
    exact ⟨_, Heap.le_refl _, Heap.le_refl _, _, frz_refl (Heap.le_refl _), by rw [subX_f fun h => by have := h.1.2; have := h.2.2; omega]⟩
  have p2 : ((ts.length : Int) ≤ max a b) = False := eq_false h2
  have ha : InR ts.length a := ⟨by omega, by omega⟩
  have hb : InR ts.length b := ⟨by omega, by omega⟩
  refine to (cj5 @i64.eq_1 @relD.eq_1 p1 p2 htyl) ?_; intro Nx hNx Gx hGx
  intro bm hbm b9 hb9
  obtain ⟨m1, m2, e1, e2, e3, e4⟩ := hR
  have hbm1 : bm ≠ b1 := fun e => by rw [e, e1] at hbm; cases hbm
  have hbm2 : bm ≠ b2 := fun e => by rw [e, e3] at hbm; cases hbm
  have hb90 : (H.upd bm (.map [])) b9 = none := hb9
  refine hNx _ ?_
  refine W_frzp 9 rfl (Heap.upd_same _ _ _) rfl ?_
  refine W_less (H.upd bm (.map [])) (fun x z hz => ?_) ?_
  · have e1 : x ≠ b9 := fun e => by rw [e, hb90] at hz; cases hz
    show (((H.upd bm _).upd b9 _).del b9) x = _
    rw [Heap.del_ne e1, Heap.upd_ne e1]
    exact hz
  simp only [St.frzp, List.drop]
  refine tq @i64.eq_1 ?_; intro Nx hNx Gx hGx
  intro bf hbf
  refine tq @i64.eq_1 ?_; intro Nx hNx Gx hGx
  have hbmf : bm ≠ bf := Heap.ne_of (Heap.upd_same _ _ _) hbf
  have hbf0 : H bf = none := (Heap.upd_none.1 hbf).2
  have hR' : ∀ x, RelH l b1 b2 ((H.upd bm (.map [])).upd bf (.row 131 0 1 x)) := fun x => by
    have f1 : bf ≠ b1 := fun e => by rw [e, e1] at hbf0; cases hbf0
    have f2 : bf ≠ b2 := fun e => by rw [e, e3] at hbf0; cases hbf0
    exact relH_upd (relH_upd ⟨m1, m2, e1, e2, e3, e4⟩ hbm1 hbm2) f1 f2
  refine (sub1_N l n ts b1 b2 bm bf hw hin hn hl htl har hbm1 hbm2 hbmf ts.length a b [] _ ha hb (by unfold InR at ha; omega) (by unfold InR at hb; omega) (hR' _) (Heap.upd_same _ _ _) ((Heap.upd_ne hbmf).trans (Heap.upd_same _ _ _)) (Memo.nil _)).mono ?_
  rintro d _ ⟨rfl, M', rfl, hM'⟩
  refine tq @i64.eq_1 ?_; intro Nx hNx Gx hGx
  refine rt hret @i64.eq_1 ?_
  have hle : H.le (((H.upd bm (.map [])).upd bf (.row 131 0 1 [[.fn 126 [.rp [.val (.map (some bm))], .rp [.seq 5 (ts.map tyD)], .rp [relD n b1 b2], .ep bf 0 1 0 0]]])).upd bm (.map M')) := Heap.le_put (Heap.le_put (Heap.le_put (Heap.le_refl _) hbm) hbf0) hbm
  exact ⟨_, Heap.le_refl _, hle, _, frz_refl hle, by rw [subX_t ha hb]⟩
end Go.Proofs.YtgfhgeelfaalmaaGreatDoor
