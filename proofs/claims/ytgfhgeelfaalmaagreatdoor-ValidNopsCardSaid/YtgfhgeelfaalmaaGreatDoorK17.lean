/- Lemmas and contracts of functions, several texts in one: UC. -/
import Derived.Test.YtgfhgeelfaalmaaGreatDoorK16
import Derived.Test.YtgfhgeelfaalmaaGreatDoorK11
import Derived.Test.YtgfhgeelfaalmaaGreatDoorK05
namespace Go.Proofs.YtgfhgeelfaalmaaGreatDoor
open Go.RowKit
set_option maxRecDepth 100000
set_option linter.unusedVariables false
set_option linter.unusedSimpArgs false
set_option maxHeartbeats 1000000 in
theorem cop2_N (ts : List TyS) (bm bf : Nat) (x : Int) (b : Bool) (H : Heap) (K : Heap → Prop) (hHf : H bf = some (.row 137 0 1 [[.fn 86 [.rp [.seq 5 (ts.map tyD)], .rp [.val (.map (some bm))], .ep bf 0 1 0 0]]])) (h : Does Tryz.prog 86 [i64 x, .rp [.seq 5 (ts.map tyD)], .rp [.val (.map (some bm))], .ep bf 0 1 0 0] H fun d H' => d = .val (.bool b) ∧ K H') :
    Does Tryz.prog 88 [i64 x, .ep bf 0 1 0 0] H fun d H' => d = .val (.bool (!b)) ∧ K H' := by
  refine does_of _ _ Tryz.func88 rfl rfl Tryz.ntmps88 Tryz.results88 (by simp only [List.length_cons, List.length_nil]; omega) fun w0 g0 Q hret => ?_
  refine tq (cj2 @i64.eq_1 hHf) ?_; intro Nx hNx Gx hGx
  refine h.mono ?_
  rintro d H1 ⟨rfl, hK⟩
  refine tq @i64.eq_1 ?_; intro Nx hNx Gx hGx
  refine rt hret @i64.eq_1 ?_
  exact ⟨_, Heap.le_refl _, by first | exact hK | exact ⟨rfl, hK⟩⟩
set_option maxHeartbeats 1000000 in
theorem idxC_N (ts : List TyS) (bm bf : Nat) (l : List Int) (G : List Int → Prop) (H0 : Heap) (hbmf : bm ≠ bf) (hl : l.length ≤ 140737488351232) (hf : H0 bf = some (.row 137 0 1 [[.fn 86 [.rp [.seq 5 (ts.map tyD)], .rp [.val (.map (some bm))], .ep bf 0 1 0 0]]]))
    (hc : ∀ x ∈ l, ∀ S, G S → Does Tryz.prog 86 [i64 x, .rp [.seq 5 (ts.map tyD)], .rp [.val (.map (some bm))], .ep bf 0 1 0 0] (H0.upd bm (.map (SM S))) fun d H' => d = .val (.bool (copB ts x)) ∧ ∃ S', H' = (H0.upd bm (.map (SM S))).upd bm (.map (SM S')) ∧ (copB ts x = true → G S'))
    (S0 : List Int) (hG : G S0) :
    Does Tryz.prog 116 [.seq 1 (l.map iD), .fn 88 [.ep bf 0 1 0 0]] (H0.upd bm (.map (SM S0))) fun d H' => ∃ r S', d = i64 r ∧ H' = H0.upd bm (.map (SM S')) ∧ ((0 ≤ r ∧ ∃ x ∈ l, copB ts x = false) ∨ (r = -1 ∧ (∀ x ∈ l, copB ts x = true) ∧ G S')) := by
  have hll : (List.map iD l).length = l.length := List.length_map _
  refine does_of _ _ Tryz.func116 rfl rfl Tryz.ntmps116 Tryz.results116 (by simp only [List.length_cons, List.length_nil]; omega) fun w0 g0 Q hret => ?_
  refine tq (cj2 @i64.eq_1 hll) ?_; intro Nx hNx Gx hGx
  refine W_loopN l.length (fun i s => s.df = [] ∧ s.fr 0 = .seq 1 (l.map iD) ∧ s.fr 1 = .fn 88 [.ep bf 0 1 0 0] ∧ s.fr 7 = i64 l.length ∧ s.fr 8 = i64 i ∧ (∃ S, s.H = H0.upd bm (.map (SM S)) ∧ G S) ∧ ∀ x ∈ l.take i, copB ts x = true) ⟨rfl, rfl, rfl, rfl, rfl, ⟨_, rfl, hG⟩, by simp⟩ ?_
  rintro i s hi ⟨hdf, f0, f1, f7, f8, ⟨S, hH, hGS⟩, hall⟩
  have hx : (i : Int).toNat = i := Int.toNat_natCast _
  have h00 : (0 : Int) ≤ (i : Int) := Int.natCast_nonneg _
  by_cases hil : i < l.length
  case neg =>
    have q6 : ((i : Int) < (l.length : Int)) = False := eq_false (by omega)
    rw [List.take_of_length_le (by omega)] at hall
    refine tq (cj4 f7 f8 @i64.eq_1 q6) ?_; intro Nx hNx Gx hGx
    refine rt hret hdf ?_
    exact ⟨_, Heap.le_refl _, -1, S, rfl, hH, .inr ⟨rfl, hall, hGS⟩⟩
  have q6 : ((i : Int) < (l.length : Int)) = True := eq_true (by omega)
  have w3 : IntKind.i64.wrap ((i : Int) + 1) = ((i + 1 : Nat) : Int) := by rw [wrap_i64_of (by omega)]; omega
  have hgi : (l.map iD)[i]? = some (iD l[i]) := by rw [List.getElem?_map, List.getElem?_eq_getElem hil]; rfl
  have hxl : l[i] ∈ l := List.getElem_mem hil
  have hHf : s.H bf = some (.row 137 0 1 [[.fn 86 [.rp [.seq 5 (ts.map tyD)], .rp [.val (.map (some bm))], .ep bf 0 1 0 0]]]) := by rw [hH, Heap.upd_ne (Ne.symm hbmf)]; exact hf
  have hq := cop2_N ts bm bf l[i] _ s.H _ hHf (by rw [hH]; exact hc l[i] hxl S hGS)
  refine tq (cj11 f0 f1 f7 f8 @i64.eq_1 hll q6 hgi hx h00 hil) ?_; intro Nx hNx Gx hGx
  refine hq.mono ?_
  rintro d H1 ⟨rfl, S', hH1, hS'⟩
  rw [upd_upd] at hH1
  subst hH1
  by_cases hb : copB ts l[i] = true
  · rw [hb]
    refine tq (cj3 f8 @i64.eq_1 w3) ?_; intro Nx hNx Gx hGx
    refine ⟨hil, hdf, f0, f1, f7, rfl, ⟨S', rfl, hS' hb⟩, fun x hx => ?_⟩
    rw [List.take_succ_eq_append_getElem hil] at hx
    rcases List.mem_append.1 hx with hx | hx
    · exact hall x hx
    · rw [List.mem_singleton] at hx; rw [hx]; exact hb
  · rw [Bool.not_eq_true] at hb
    rw [hb]
    refine tq (cj2 f8 @i64.eq_1) ?_; intro Nx hNx Gx hGx
    refine rt hret hdf ?_
    exact ⟨_, Heap.le_refl _, i, S', rfl, rfl, .inl ⟨by omega, l[i], hxl, hb⟩⟩
set_option maxHeartbeats 1000000 in
theorem contC_N (l : List Int) (f : D) (H : Heap) (K : Int → Heap → Prop) (h : Does Tryz.prog 116 [.seq 1 (l.map iD), f] H fun d H' => ∃ r, d = i64 r ∧ K r H') :
    Does Tryz.prog 87 [.seq 1 (l.map iD), f] H fun d H' => ∃ r, d = .val (.bool (decide (0 ≤ r))) ∧ K r H' := by
  refine does_of _ _ Tryz.func87 rfl rfl Tryz.ntmps87 Tryz.results87 (by simp only [List.length_cons, List.length_nil]; omega) fun w0 g0 Q hret => ?_
  refine tq @i64.eq_1 ?_; intro Nx hNx Gx hGx
  refine h.mono ?_
  rintro d H1 ⟨r, rfl, hK⟩
  refine tq @i64.eq_1 ?_; intro Nx hNx Gx hGx
  refine rt hret @i64.eq_1 ?_
  exact ⟨_, Heap.le_refl _, r, rfl, hK⟩
set_option maxHeartbeats 1000000 in
theorem cop1_N (ts : List TyS) (bm bf : Nat) (hw : wfT ts) (hr : rfN ts) (htl : ts.length ≤ 1000000) (har : ∀ t ∈ ts, t.ar.length ≤ 140737488351232) (hbmf : bm ≠ bf) :
    ∀ (kk : Nat) (a : Int) (S : List Int) (H : Heap), InR ts.length a → a < kk → H bf = some (.row 137 0 1 [[.fn 86 [.rp [.seq 5 (ts.map tyD)], .rp [.val (.map (some bm))], .ep bf 0 1 0 0]]]) → H bm = some (.map (SM S)) → (∀ x ∈ S, InR ts.length x) → (∀ k ∈ S, k ≤ a → Cop ts k) →
      Does Tryz.prog 86 [i64 a, .rp [.seq 5 (ts.map tyD)], .rp [.val (.map (some bm))], .ep bf 0 1 0 0] H fun d H' => d = .val (.bool (copB ts a)) ∧ ∃ S', H' = H.upd bm (.map (SM S')) ∧ (copB ts a = true → (∀ x ∈ S', InR ts.length x) ∧ ∀ x ∈ S', x ∈ S ∨ Cop ts x) := by
  intro kk
  induction kk using Nat.strongRecOn with
  | ind kk ih =>
    intro a S H ha hak hHf hHm hSi hSc
    have htyl : (List.map tyD ts).length = ts.length := List.length_map _
    have ha64 : I64' a := by unfold InR at ha; unfold I64'; omega
    have hkk := SM_ok (by omega) hSi ha64
    have hga := ty_get ha
    have hci := cop_iff hw ha
    have hdn := Dn.F hw a ha
    have hara : (tyAt ts a).ar.length ≤ 140737488351232 := har _ (tyAt_in ha)
    have hra := hr _ (tyAt_in ha)
    obtain ⟨t, ht⟩ : ∃ t, t = tyAt ts a := ⟨_, rfl⟩
    unfold parF at hdn
    rw [← ht] at hga hdn hara hci hra
    obtain ⟨tk, tm, tr, te, ta⟩ := t
    simp only [tyD] at hga
    have h0a : 0 ≤ a := ha.1
    have hal : a.toNat < ts.length := by unfold InR at ha; omega
    have hal' : a < (ts.length : Int) := ha.2
    refine does_of _ _ Tryz.func86 rfl rfl Tryz.ntmps86 Tryz.results86 (by simp only [List.length_cons, List.length_nil]; omega) fun w0 g0 Q hret => ?_
    by_cases h3 : tk = 3
    · have q3 : (tk = 3) = True := eq_true h3
      have hcb : copB ts a = !tm := by
        cases tm with
        | true => exact copB_f.2 fun h => (hci.1 h).1 ⟨h3, rfl⟩
        | false => exact copB_t.2 (hci.2 ⟨(fun h => by cases h.2), by rw [hra h3]; simp⟩)
      refine tq (cj7 @i64.eq_1 hga h0a hal hal' htyl q3) ?_; intro Nx hNx Gx hGx
      refine rt hret @i64.eq_1 ?_
      exact ⟨_, Heap.le_refl _, by rw [hcb], S, (upd_self hHm).symm, fun _ => ⟨hSi, fun x hx => .inl hx⟩⟩
    have q3 : (tk = 3) = False := eq_false h3
    by_cases hin : a ∈ S
    · have hmg := SM_in hin
      refine tq (cj9 @i64.eq_1 hga h0a hal hal' htyl q3 hHm hmg) ?_; intro Nx hNx Gx hGx
      refine ⟨hkk, ?_⟩
      refine tq @i64.eq_1 ?_; intro Nx hNx Gx hGx
      refine rt hret @i64.eq_1 ?_
      exact ⟨_, Heap.le_refl _, by rw [copB_t.2 (hSc a hin (Int.le_refl _))], S, (upd_self hHm).symm, fun _ => ⟨hSi, fun x hx => .inl hx⟩⟩
    have hmg := SM_out hin
    have hset := SM_set hin
    refine tq (cj9 @i64.eq_1 hga h0a hal hal' htyl q3 hHm hmg) ?_; intro Nx hNx Gx hGx
    refine ⟨hkk, ?_⟩
    refine tq (cj3 @i64.eq_1 hHm hmg) ?_; intro Nx hNx Gx hGx
    refine ⟨hkk, ?_⟩
    rw [hset]
    refine tq (cj6 @i64.eq_1 hga h0a hal hal' htyl) ?_; intro Nx hNx Gx hGx
    have hf2 : (H.upd bm (.map (SM (S ++ [a])))) bf = some (.row 137 0 1 [[.fn 86 [.rp [.seq 5 (ts.map tyD)], .rp [.val (.map (some bm))], .ep bf 0 1 0 0]]]) := by rw [Heap.upd_ne (Ne.symm hbmf)]; exact hHf
    refine (contC_N ta _ _ (fun r H' => ∃ S', H' = H.upd bm (.map (SM S')) ∧ ((0 ≤ r ∧ ∃ x ∈ ta, copB ts x = false) ∨ (r = -1 ∧ (∀ x ∈ ta, copB ts x = true) ∧ ((∀ x ∈ S', InR ts.length x) ∧ ∀ x ∈ S', x ∈ S ∨ x = a ∨ Cop ts x)))) ((idxC_N ts bm bf ta (fun S' => (∀ x ∈ S', InR ts.length x) ∧ ∀ x ∈ S', x ∈ S ∨ x = a ∨ Cop ts x) H hbmf hara hHf (fun x hx S1 hG => ?_) (S ++ [a]) ⟨?_, ?_⟩).mono fun d H' ⟨r, S', h1, h2, h3⟩ => ⟨r, h1, S', h2, h3⟩)).mono ?_
    · have hxa := hdn x hx
      refine (ih (x + 1).toNat (by omega) x S1 _ ⟨by omega, by omega⟩ (by omega) (by rw [Heap.upd_ne (Ne.symm hbmf)]; exact hHf) (Heap.upd_same _ _ _) hG.1 fun k hk hkx => ?_).mono ?_
      · rcases hG.2 k hk with h | h | h
        · exact hSc k h (by omega)
        · omega
        · exact h
      · rintro d H' ⟨h1, S', h2, h4⟩
        refine ⟨h1, S', h2, fun hc => ⟨(h4 hc).1, fun y hy => ?_⟩⟩
        rcases (h4 hc).2 y hy with h | h
        · exact hG.2 y h
        · exact .inr (.inr h)
    · intro x hx
      rcases List.mem_append.1 hx with hx | hx
      · exact hSi x hx
      · rw [List.mem_singleton] at hx; rw [hx]; exact ha
    · intro x hx
      rcases List.mem_append.1 hx with hx | hx
      · exact .inl hx
      · rw [List.mem_singleton] at hx; exact .inr (.inl hx)
    rintro d _ ⟨r, rfl, S', rfl, hres⟩
    rcases hres with ⟨h0, x, hx, hxb⟩ | ⟨rfl, hall, hi, hm⟩
    · have q0 : (0 ≤ r) = True := eq_true h0
      have hcb : copB ts a = false := copB_f.2 fun h => copB_f.1 hxb ((hci.1 h).2 x hx)
      refine tq (cj2 @i64.eq_1 q0) ?_; intro Nx hNx Gx hGx
      refine rt hret @i64.eq_1 ?_
      exact ⟨_, Heap.le_refl _, by simp [hcb], S', rfl, fun h => by rw [hcb] at h; cases h⟩
    · have hcp : Cop ts a := hci.2 ⟨fun h => h3 h.1, fun p hp => copB_t.1 (hall p hp)⟩
      have hcb : copB ts a = true := copB_t.2 hcp
      refine tq @i64.eq_1 ?_; intro Nx hNx Gx hGx
      refine rt hret @i64.eq_1 ?_
      exact ⟨_, Heap.le_refl _, by simp [hcb], S', rfl, fun _ => ⟨hi, fun x hx => by
        rcases hm x hx with h | h | h
        · exact .inl h
        · rw [h]; exact .inr hcp
        · exact .inr h⟩⟩
set_option maxHeartbeats 1000000 in
theorem cop_N (ts : List TyS) (a : Int) (H : Heap) (hw : wfT ts) (hr : rfN ts) (htl : ts.length ≤ 1000000) (har : ∀ t ∈ ts, t.ar.length ≤ 140737488351232) :
    Does Tryz.prog 65 [.seq 5 (ts.map tyD), i64 a] H fun d H' => d = .val (.bool (copB ts a)) ∧ H = H' := by
  refine Does.frz (K := fun d => d = .val (.bool (copB ts a))) ?_
  have htyl : (List.map tyD ts).length = ts.length := List.length_map _
  have hle := Heap.le_refl H
  refine does_of _ _ Tryz.func65 rfl rfl Tryz.ntmps65 Tryz.results65 (by simp only [List.length_cons, List.length_nil]; omega) fun w0 g0 Q hret => ?_
  refine tq @i64.eq_1 ?_; intro Nx hNx Gx hGx
  intro c2 hc2
  refine hNx _ ?_
  refine frz 2 hc2 ?_
  by_cases h1 : 0 ≤ a
  case neg =>
    have hcb : copB ts a = false := copB_f.2 fun h => h1 h.1.1
    have q1 : (a < 0) = True := eq_true (by omega)
    refine tq (cj3 @i64.eq_1 htyl q1) ?_; intro Nx hNx Gx hGx
    refine rt hret @i64.eq_1 ?_
    exact ⟨_, Heap.le_refl _, hle, _, frz_refl hle, by rw [hcb]⟩
  have q1 : (a < 0) = False := eq_false (by omega)
  by_cases h2 : a < ts.length
  case neg =>
    have hcb : copB ts a = false := copB_f.2 fun h => h2 h.1.2
    have q2 : ((ts.length : Int) ≤ a) = True := eq_true (by omega)
    refine tq (cj4 @i64.eq_1 q1 q2 htyl) ?_; intro Nx hNx Gx hGx
    refine rt hret @i64.eq_1 ?_
    exact ⟨_, Heap.le_refl _, hle, _, frz_refl hle, by rw [hcb]⟩
  have q2 : ((ts.length : Int) ≤ a) = False := eq_false (by omega)
  refine tq (cj4 @i64.eq_1 q1 q2 htyl) ?_; intro Nx hNx Gx hGx
  intro bm hbm b5 hb5
  have hb50 : (H.upd bm (.map [])) b5 = none := hb5
  refine hNx _ ?_
  refine W_frzp 5 rfl (Heap.upd_same _ _ _) rfl ?_
  refine W_less (H.upd bm (.map [])) (fun x z hz => ?_) ?_
  · have e1 : x ≠ b5 := fun e => by rw [e, hb50] at hz; cases hz
    show (((H.upd bm _).upd b5 _).del b5) x = _
    rw [Heap.del_ne e1, Heap.upd_ne e1]
    exact hz
  simp only [St.frzp, List.drop]
  refine tq @i64.eq_1 ?_; intro Nx hNx Gx hGx
  intro bf hbf
  have hbmf : bm ≠ bf := Heap.ne_of (Heap.upd_same _ _ _) hbf
  have hbf0 : H bf = none := (Heap.upd_none.1 hbf).2
  refine hNx _ ?_
  refine tq @i64.eq_1 ?_; intro Nx hNx Gx hGx
  refine (cop1_N ts bm bf hw hr htl har hbmf ts.length a [] _ ⟨by omega, by omega⟩ (by omega) (Heap.upd_same _ _ _) ((Heap.upd_ne hbmf).trans (Heap.upd_same _ _ _)) (by simp) (by simp)).mono ?_
  rintro d _ ⟨rfl, S, rfl, _⟩
  refine tq @i64.eq_1 ?_; intro Nx hNx Gx hGx
  refine rt hret @i64.eq_1 ?_
  have hle7 : H.le (((H.upd bm (.map [])).upd bf (.row 137 0 1 [[.fn 86 [.rp [.seq 5 (ts.map tyD)], .rp [.val (.map (some bm))], .ep bf 0 1 0 0]]])).upd bm (.map (SM S))) := Heap.le_put (Heap.le_put (Heap.le_put (Heap.le_refl _) hbm) hbf0) hbm
  exact ⟨_, Heap.le_refl _, hle7, _, frz_refl hle7, rfl⟩
end Go.Proofs.YtgfhgeelfaalmaaGreatDoor
