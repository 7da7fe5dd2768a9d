/- Lemmas and contracts of functions, several texts in one: EW. -/
import Derived.Test.YtiakpcnglihnbaaDoorGI
import Derived.Maps.RangeRun
/- Ranging over a map of the call's own, whose entries stay as they are: the order is open. -/
namespace Go.Proofs.YtiakpcnglihnbaaDoor
open Go.RowKit
open Go.ChangeMaps (setBlock)
set_option linter.unusedVariables false
set_option linter.unusedSimpArgs false
/-- 'range' over the map at b is under way; the iterator is at r; what is still to come. -/
def Rng (H : Heap) (b r : Nat) (todo : List (Value × Value)) : Prop :=
  ∃ es clock since seen c0, H b = some (.obj (.map es clock)) ∧ H r = some (.obj (.mapIter (some b) since seen c0)) ∧ (∀ x ∈ es.toList, x.born < since) ∧ since ≤ c0 ∧ since ≤ clock ∧
    (es.toList.map (·.born)).Nodup ∧ todo = (leftOf es seen).toList.map fun e => (e.key, e.val)
/-- .. and this entry has just come. -/
def RngE (H : Heap) (b r : Nat) (p : Value × Value) : Prop :=
  ∃ (es : Array MapEntry) (clock since : Nat) (seen : Array Nat) (e : MapEntry), H b = some (.obj (.map es clock)) ∧ H r = some (.obj (.mapIter (some b) since (seen.push e.born) clock)) ∧ e ∈ es.toList ∧ (es.toList.map (·.born)).Nodup ∧ p = (e.key, e.val)
theorem Rng.keep {H H' : Heap} {b r : Nat} {todo : List (Value × Value)} (h : Rng H b r todo) (hb : H' b = H b) (hr : H' r = H r) : Rng H' b r todo := by
  obtain ⟨es, clock, since, seen, c0, h1, h2, h3⟩ := h
  exact ⟨es, clock, since, seen, c0, hb.trans h1, hr.trans h2, h3⟩
theorem RngE.keep {H H' : Heap} {b r : Nat} {p : Value × Value} (h : RngE H b r p) (hb : H' b = H b) (hr : H' r = H r) : RngE H' b r p := by
  obtain ⟨es, clock, since, seen, e, h1, h2, h3⟩ := h
  exact ⟨es, clock, since, seen, e, hb.trans h1, hr.trans h2, h3⟩
theorem vals_of {w : World} {S : Nat → Prop} : ∀ (vs : List (Value × Value)) (us : List Value), valsAll w S ((vs.map fun p => (p.1, D.val p.2)).map (·.2)) us → us = vs.map (·.2)
  | [], us, h => by simpa [valsAll] using h
  | p :: vs, us, h => by
    simp only [List.map_cons, valsAll, D.is] at h
    obtain ⟨u, us', rfl, rfl, h⟩ := h
    rw [vals_of vs us' h]
    rfl
theorem pairs_of : ∀ (l : List MapEntry) (vs : List (Value × Value)), l.map (·.key) = vs.map (·.1) → l.map (·.val) = vs.map (·.2) → l.map (fun e => (e.key, e.val)) = vs
  | [], [], _, _ => rfl
  | [], _ :: _, h, _ => by cases h
  | _ :: _, [], h, _ => by cases h
  | e :: l, p :: vs, h1, h2 => by
    simp only [List.map_cons, List.cons.injEq] at h1 h2 ⊢
    exact ⟨by rw [h1.1, h2.1], pairs_of l vs h1.2 h2.2⟩
theorem WO_range {cx : Cx} {o : Oper} {K : St → Prop} {s : St} {t k e : TypeId} {x : Operand} {b : Nat} (vs : List (Value × Value)) (e0 : o.op = .range t x) (hd : okd cx.n o.dst) (ht : cx.P.underlying t = some (.map k e))
    (hx : s.ev x = .val (.map (some b))) (hb : s.H b = some (.map (vs.map fun p => (p.1, .val p.2))))
    (h : ∀ r H', s.H r = none → r ≠ b → Rng H' b r vs → (∀ c, c ≠ b → c ≠ r → H' c = s.H c) → K ((s.withH H').put o.dst (.val (.pointer (some ⟨r, 0, none⟩))))) : WO cx o K s :=
  WO_val (by simp [e0]) hd fun a w m => by
    have hx1 := m.ev_ x
    rw [hx] at hx1
    have hx2 := is_val hx1
    obtain ⟨es, clock, h1, h2, h3, h4, h5, h6⟩ := m.H _ _ hb
    have hlt : b < w.heap.size := (Array.getElem?_eq_some_iff.1 h1).1
    have hne : w.heap.size ≠ b := by omega
    have hdom : Dom (s.H.upd b (.obj (.map es clock))) s.H := fun c hc => by
      rw [Heap.upd_ne (fun e => by rw [e, hb] at hc; cases hc)]; exact hc
    have hH1 : HOk w (s.H.upd b (.obj (.map es clock))) := fun c y hc => by
      by_cases ec : c = b
      · subst ec
        rw [Heap.upd_same] at hc
        injection hc with hc
        subst hc
        exact h1
      · rw [Heap.upd_ne ec] at hc
        exact (ev_dom hdom w).objAt rfl (m.H c y hc)
    have hH2 : HOk (w.alloc (.mapIter (some b) clock #[] clock)) ((s.H.upd b (.obj (.map es clock))).upd w.heap.size (.obj (.mapIter (some b) clock #[] clock))) := HOk.alloc hH1 (heap_alloc_new w _)
    refine ⟨.pointer (some ⟨w.heap.size, 0, none⟩), _, _, _, ?_, is_mk _, hH2, (ev_dom hdom w).trans (ev_alloc _ _ hH1), h w.heap.size _ (fresh_none m.H) hne ⟨es, clock, clock, #[], clock, ?_, Heap.upd_same .., ?_, Nat.le_refl _, Nat.le_refl _, h6, ?_⟩ ?_⟩
    · simp only [execOp, e0, hx2]
      have := run_range_map (P := cx.P) w t k e b es clock ht h1
      simp only [Sem.run_bind, this, Result.andThen, Sem.run_pure]
    · rw [Heap.upd_ne (Ne.symm hne), Heap.upd_same]
    · intro y hy
      exact h5 _ (List.mem_map_of_mem (f := (·.born)) hy)
    · have hl : leftOf es #[] = es := by
        unfold leftOf
        rw [Array.filter_eq_self]
        intro y _
        simp
      rw [hl]
      refine (pairs_of _ _ ?_ ?_).symm
      · rw [h2, List.map_map]; rfl
      · exact vals_of vs _ h3
    · intro c hc hr
      rw [Heap.upd_ne hr, Heap.upd_ne hc]
theorem nodup_filter_split {l : List MapEntry} {l1 l2 : List MapEntry} {e : MapEntry} (hn : (l.map (·.born)).Nodup) (hl : l = l1 ++ e :: l2) : l.filter (fun x => !(x.born == e.born)) = l1 ++ l2 := by
  subst hl
  rw [List.map_append, List.map_cons, List.nodup_append] at hn
  obtain ⟨h1, h2, h3⟩ := hn
  rw [List.nodup_cons] at h2
  rw [List.filter_append, List.filter_cons]
  simp only [BEq.rfl, Bool.not_true, Bool.false_eq_true, if_false]
  congr 1
  · refine List.filter_eq_self.2 fun x hx => ?_
    have := h3 x.born (List.mem_map_of_mem (f := (·.born)) hx) e.born (by simp)
    simpa using this
  · refine List.filter_eq_self.2 fun x hx => ?_
    have : x.born ≠ e.born := fun e1 => h2.1 (by rw [← e1]; exact List.mem_map_of_mem (f := (·.born)) hx)
    simpa using this
theorem left_push {es : Array MapEntry} {seen : Array Nat} {e : MapEntry} {l1 l2 : List MapEntry} (hn : (es.toList.map (·.born)).Nodup) (hl : (leftOf es seen).toList = l1 ++ e :: l2) : (leftOf es (seen.push e.born)).toList = l1 ++ l2 := by
  have h1 : (leftOf es (seen.push e.born)).toList = (leftOf es seen).toList.filter (fun x => !(x.born == e.born)) := by
    unfold leftOf
    rw [Array.toList_filter, Array.toList_filter, List.filter_filter]
    refine List.filter_congr fun x _ => ?_
    rw [contains_push]
    cases seen.contains x.born <;> cases (x.born == e.born) <;> rfl
  rw [h1]
  refine nodup_filter_split ?_ hl
  unfold leftOf
  rw [Array.toList_filter]
  exact hn.sublist (List.Sublist.map _ List.filter_sublist)
theorem WO_next {cx : Cx} {o : Oper} {K : St → Prop} {s : St} {x : Operand} {b r : Nat} {todo : List (Value × Value)} (e0 : o.op = .next x false) (hd : okd cx.n o.dst)
    (hx : s.ev x = .val (.pointer (some ⟨r, 0, none⟩))) (hR : Rng s.H b r todo) (h0 : todo = [] → K (s.put o.dst (.tup [.val (.bool false)])))
    (h1 : ∀ l1 p l2 H', todo = l1 ++ p :: l2 → Rng H' b r (l1 ++ l2) → RngE H' b r p → (∀ c, c ≠ r → H' c = s.H c) → K ((s.withH H').put o.dst (.tup [.val (.bool true), .val p.1, .val p.2]))) : WO cx o K s :=
  WO_val (by simp [e0]) hd fun a w m => by
    have hx1 := m.ev_ x
    rw [hx] at hx1
    have hx2 := is_val hx1
    obtain ⟨es, clock, since, seen, c0, hb, hr, hold, hsc, hsk, hnd, rfl⟩ := hR
    have wb : w.heap[b]? = some (.map es clock) := m.H _ _ hb
    have wr : w.heap[r]? = some (.mapIter (some b) since seen c0) := m.H _ _ hr
    have hbr : b ≠ r := fun e => by rw [e, wr] at wb; cases wb
    rcases run_next_at (P := cx.P) w o.type r b since c0 seen es clock wr wb hold hsc with ⟨z, hrun⟩ | ⟨e, he, w1, hal, hrun⟩
    · refine ⟨.tuple #[.bool false], w, _, s.H, ?_, ?_, m.H, Ev.refl _ _, h0 ?_⟩
      · simp only [execOp, e0, hx2, Sem.run_bind, hrun, Result.andThen, Sem.run_pure]
      · simp only [D.is, valsAll]
        exact ⟨_, rfl, _, _, rfl, rfl, rfl⟩
      · have : leftOf es seen = #[] := Array.eq_empty_of_size_eq_zero z
        rw [this]; rfl
    · obtain ⟨l1, l2, hl⟩ := List.append_of_mem he
      have hw1 : w1.heap = w.heap := by rcases hal with rfl | rfl <;> rfl
      have he1 : Ev s.H w s.H w1 := by
        rcases hal with rfl | rfl
        · exact Ev.refl _ _
        · exact ev_drew _ _
      have wr1 : w1.heap[r]? = some (.mapIter (some b) since seen c0) := by rw [hw1]; exact wr
      have hset := MapKept.heap_set (o' := .mapIter (some b) since (seen.push e.born) clock) wr1
      have hH1 : HOk w1 s.H := by
        rcases hal with rfl | rfl
        · exact m.H
        · exact m.H.drew
      have hev : Ev s.H w1 (s.H.upd r (.obj (.mapIter (some b) since (seen.push e.born) clock))) (setBlock w1 r (.mapIter (some b) since (seen.push e.born) clock)) :=
        ev_block (by rw [hr]; simp) rfl rfl rfl (by simp [setBlock]) (fun c hc => hset.2 c hc) fun cs t fr h => by
          rw [wr1] at h
          cases h
      have hok := hok_block hH1 hev (fun c hc => hset.2 c hc) (x := .obj (.mapIter (some b) since (seen.push e.born) clock)) hset.1
      have hbb : (s.H.upd r (.obj (.mapIter (some b) since (seen.push e.born) clock))) b = some (.obj (.map es clock)) := by rw [Heap.upd_ne hbr]; exact hb
      obtain ⟨hem, hes⟩ := mem_left he
      refine ⟨.tuple #[.bool true, e.key, e.val], _, _, _, ?_, ?_, hok, he1.trans hev, h1 (l1.map fun e => (e.key, e.val)) (e.key, e.val) (l2.map fun e => (e.key, e.val)) _ (by rw [hl, List.map_append, List.map_cons]) ⟨es, clock, since, seen.push e.born, clock, hbb, Heap.upd_same .., hold, hsk, hsk, hnd, ?_⟩ ⟨es, clock, since, seen, e, hbb, Heap.upd_same .., hem, hnd, rfl⟩ (fun c hc => Heap.upd_ne hc)⟩
      · simp only [execOp, e0, hx2, Sem.run_bind, hrun, Result.andThen, Sem.run_pure]
      · simp only [D.is, valsAll]
        exact ⟨_, rfl, _, _, rfl, rfl, _, _, rfl, rfl, _, _, rfl, rfl, rfl⟩
      · rw [left_push hnd hl, List.map_append]
theorem WO_entry {cx : Cx} {o : Oper} {K : St → Prop} {s : St} {x : Operand} {b r : Nat} {p : Value × Value} (e0 : o.op = .entry x) (hd : okd cx.n o.dst)
    (hx : s.ev x = .val (.pointer (some ⟨r, 0, none⟩))) (hR : RngE s.H b r p) (h : K (s.put o.dst (.tup [.val p.1, .val p.2]))) : WO cx o K s :=
  WO_pure (by simp [e0]) hd fun a w m => by
    have hx1 := m.ev_ x
    rw [hx] at hx1
    have hx2 := is_val hx1
    obtain ⟨es, clock, since, seen, e, hb, hr, hem, hnd, rfl⟩ := hR
    refine ⟨.tuple #[e.key, e.val], _, ?_, ?_, h⟩
    · simp only [execOp, e0, hx2, Sem.run_bind, run_entry_at (P := cx.P) w r b since seen es clock e (m.H _ _ hr) (m.H _ _ hb) hem hnd, Result.andThen, Sem.run_pure]
    · simp only [D.is, valsAll]
      exact ⟨_, rfl, _, _, rfl, rfl, _, _, rfl, rfl, rfl⟩
end Go.Proofs.YtiakpcnglihnbaaDoor
