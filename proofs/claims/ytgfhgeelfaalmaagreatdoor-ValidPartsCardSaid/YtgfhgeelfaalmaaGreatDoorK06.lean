/- Lemmas and contracts of functions, several texts in one: EW LSb GK. -/
import Derived.Test.YtgfhgeelfaalmaaGreatDoorK05
import Derived.Maps.RangeRun
import Derived.Test.YtgfhgeelfaalmaaGreatDoorK03
import Derived.OpenShut
import Derived.ChangeSame
/- Ranging over a map of the call's own, whose entries stay as they are: the order is open. -/
namespace Go.Proofs.YtgfhgeelfaalmaaGreatDoor
open Go.RowKit
open Go.ChangeMaps (setBlock)
set_option linter.unusedVariables false
set_option linter.unusedSimpArgs false
/-- 'range' over the map at b is under way; the iterator is at r; what is still to come. -/
def Rng (H : Heap) (b r : Nat) (todo : List (Value × Value)) : Prop :=
  ∃ es clock since seen c0, H b = some (.obj (.map es clock)) ∧ H r = some (.obj (.mapIter (some b) since seen c0)) ∧ (∀ x ∈ es.toList, x.born < since) ∧ since ≤ c0 ∧ since ≤ clock ∧
    (es.toList.map (·.born)).Nodup ∧ todo = (leftOf es seen).toList.map fun e => (e.key, e.val)
/-- .. and this entry has just come. -/
def RngE (H : Heap) (b r : Nat) (p : Value × Value) : Prop :=
  ∃ (es : Array MapEntry) (clock since : Nat) (seen : Array Nat) (e : MapEntry), H b = some (.obj (.map es clock)) ∧ H r = some (.obj (.mapIter (some b) since (seen.push e.born) clock)) ∧ e ∈ es.toList ∧ (es.toList.map (·.born)).Nodup ∧ p = (e.key, e.val)
theorem Rng.keep {H H' : Heap} {b r : Nat} {todo : List (Value × Value)} (h : Rng H b r todo) (hb : H' b = H b) (hr : H' r = H r) : Rng H' b r todo := by
  obtain ⟨es, clock, since, seen, c0, h1, h2, h3⟩ := h
  exact ⟨es, clock, since, seen, c0, hb.trans h1, hr.trans h2, h3⟩
theorem RngE.keep {H H' : Heap} {b r : Nat} {p : Value × Value} (h : RngE H b r p) (hb : H' b = H b) (hr : H' r = H r) : RngE H' b r p := by
  obtain ⟨es, clock, since, seen, e, h1, h2, h3⟩ := h
  exact ⟨es, clock, since, seen, e, hb.trans h1, hr.trans h2, h3⟩
theorem vals_of {w : World} {S : Nat → Prop} : ∀ (vs : List (Value × Value)) (us : List Value), valsAll w S ((vs.map fun p => (p.1, D.val p.2)).map (·.2)) us → us = vs.map (·.2)
  | [], us, h => by simpa [valsAll] using h
  | p :: vs, us, h => by
    simp only [List.map_cons, valsAll, D.is] at h
    obtain ⟨u, us', rfl, rfl, h⟩ := h
    rw [vals_of vs us' h]
    rfl
theorem pairs_of : ∀ (l : List MapEntry) (vs : List (Value × Value)), l.map (·.key) = vs.map (·.1) → l.map (·.val) = vs.map (·.2) → l.map (fun e => (e.key, e.val)) = vs
  | [], [], _, _ => rfl
  | [], _ :: _, h, _ => by cases h
  | _ :: _, [], h, _ => by cases h
  | e :: l, p :: vs, h1, h2 => by
    simp only [List.map_cons, List.cons.injEq] at h1 h2 ⊢
    exact ⟨by rw [h1.1, h2.1], pairs_of l vs h1.2 h2.2⟩
theorem WO_range {cx : Cx} {o : Oper} {K : St → Prop} {s : St} {t k e : TypeId} {x : Operand} {b : Nat} (vs : List (Value × Value)) (e0 : o.op = .range t x) (hd : okd cx.n o.dst) (ht : cx.P.underlying t = some (.map k e))
    (hx : s.ev x = .val (.map (some b))) (hb : s.H b = some (.map (vs.map fun p => (p.1, .val p.2))))
    (h : ∀ r H', s.H r = none → r ≠ b → Rng H' b r vs → (∀ c, c ≠ b → c ≠ r → H' c = s.H c) → K ((s.withH H').put o.dst (.val (.pointer (some ⟨r, 0, none⟩))))) : WO cx o K s :=
  WO_val (by simp [e0]) hd fun a w m => by
    have hx1 := m.ev_ x
    rw [hx] at hx1
    have hx2 := is_val hx1
    obtain ⟨es, clock, h1, h2, h3, h4, h5, h6⟩ := m.H _ _ hb
    have hlt : b < w.heap.size := (Array.getElem?_eq_some_iff.1 h1).1
    have hne : w.heap.size ≠ b := by omega
    have hdom : Dom (s.H.upd b (.obj (.map es clock))) s.H := fun c hc => by
      rw [Heap.upd_ne (fun e => by rw [e, hb] at hc; cases hc)]; exact hc
    have hH1 : HOk w (s.H.upd b (.obj (.map es clock))) := fun c y hc => by
      by_cases ec : c = b
      · subst ec
        rw [Heap.upd_same] at hc
        injection hc with hc
        subst hc
        exact h1
      · rw [Heap.upd_ne ec] at hc
        exact (ev_dom hdom w).objAt rfl (m.H c y hc)
    have hH2 : HOk (w.alloc (.mapIter (some b) clock #[] clock)) ((s.H.upd b (.obj (.map es clock))).upd w.heap.size (.obj (.mapIter (some b) clock #[] clock))) := HOk.alloc hH1 (heap_alloc_new w _)
    refine ⟨.pointer (some ⟨w.heap.size, 0, none⟩), _, _, _, ?_, is_mk _, hH2, (ev_dom hdom w).trans (ev_alloc _ _ hH1), h w.heap.size _ (fresh_none m.H) hne ⟨es, clock, clock, #[], clock, ?_, Heap.upd_same .., ?_, Nat.le_refl _, Nat.le_refl _, h6, ?_⟩ ?_⟩
    · simp only [execOp, e0, hx2]
      have := run_range_map (P := cx.P) w t k e b es clock ht h1
      simp only [Sem.run_bind, this, Result.andThen, Sem.run_pure]
    · rw [Heap.upd_ne (Ne.symm hne), Heap.upd_same]
    · intro y hy
      exact h5 _ (List.mem_map_of_mem (f := (·.born)) hy)
    · have hl : leftOf es #[] = es := by
        unfold leftOf
        rw [Array.filter_eq_self]
        intro y _
        simp
      rw [hl]
      refine (pairs_of _ _ ?_ ?_).symm
      · rw [h2, List.map_map]; rfl
      · exact vals_of vs _ h3
    · intro c hc hr
      rw [Heap.upd_ne hr, Heap.upd_ne hc]
theorem nodup_filter_split {l : List MapEntry} {l1 l2 : List MapEntry} {e : MapEntry} (hn : (l.map (·.born)).Nodup) (hl : l = l1 ++ e :: l2) : l.filter (fun x => !(x.born == e.born)) = l1 ++ l2 := by
  subst hl
  rw [List.map_append, List.map_cons, List.nodup_append] at hn
  obtain ⟨h1, h2, h3⟩ := hn
  rw [List.nodup_cons] at h2
  rw [List.filter_append, List.filter_cons]
  simp only [BEq.rfl, Bool.not_true, Bool.false_eq_true, if_false]
  congr 1
  · refine List.filter_eq_self.2 fun x hx => ?_
    have := h3 x.born (List.mem_map_of_mem (f := (·.born)) hx) e.born (by simp)
    simpa using this
  · refine List.filter_eq_self.2 fun x hx => ?_
    have : x.born ≠ e.born := fun e1 => h2.1 (by rw [← e1]; exact List.mem_map_of_mem (f := (·.born)) hx)
    simpa using this
theorem left_push {es : Array MapEntry} {seen : Array Nat} {e : MapEntry} {l1 l2 : List MapEntry} (hn : (es.toList.map (·.born)).Nodup) (hl : (leftOf es seen).toList = l1 ++ e :: l2) : (leftOf es (seen.push e.born)).toList = l1 ++ l2 := by
  have h1 : (leftOf es (seen.push e.born)).toList = (leftOf es seen).toList.filter (fun x => !(x.born == e.born)) := by
    unfold leftOf
    rw [Array.toList_filter, Array.toList_filter, List.filter_filter]
    refine List.filter_congr fun x _ => ?_
    rw [contains_push]
    cases seen.contains x.born <;> cases (x.born == e.born) <;> rfl
  rw [h1]
  refine nodup_filter_split ?_ hl
  unfold leftOf
  rw [Array.toList_filter]
  exact hn.sublist (List.Sublist.map _ List.filter_sublist)
theorem WO_next {cx : Cx} {o : Oper} {K : St → Prop} {s : St} {x : Operand} {b r : Nat} {todo : List (Value × Value)} (e0 : o.op = .next x false) (hd : okd cx.n o.dst)
    (hx : s.ev x = .val (.pointer (some ⟨r, 0, none⟩))) (hR : Rng s.H b r todo) (h0 : todo = [] → K (s.put o.dst (.tup [.val (.bool false)])))
    (h1 : ∀ l1 p l2 H', todo = l1 ++ p :: l2 → Rng H' b r (l1 ++ l2) → RngE H' b r p → (∀ c, c ≠ r → H' c = s.H c) → K ((s.withH H').put o.dst (.tup [.val (.bool true), .val p.1, .val p.2]))) : WO cx o K s :=
  WO_val (by simp [e0]) hd fun a w m => by
    have hx1 := m.ev_ x
    rw [hx] at hx1
    have hx2 := is_val hx1
    obtain ⟨es, clock, since, seen, c0, hb, hr, hold, hsc, hsk, hnd, rfl⟩ := hR
    have wb : w.heap[b]? = some (.map es clock) := m.H _ _ hb
    have wr : w.heap[r]? = some (.mapIter (some b) since seen c0) := m.H _ _ hr
    have hbr : b ≠ r := fun e => by rw [e, wr] at wb; cases wb
    rcases run_next_at (P := cx.P) w o.type r b since c0 seen es clock wr wb hold hsc with ⟨z, hrun⟩ | ⟨e, he, w1, hal, hrun⟩
    · refine ⟨.tuple #[.bool false], w, _, s.H, ?_, ?_, m.H, Ev.refl _ _, h0 ?_⟩
      · simp only [execOp, e0, hx2, Sem.run_bind, hrun, Result.andThen, Sem.run_pure]
      · simp only [D.is, valsAll]
        exact ⟨_, rfl, _, _, rfl, rfl, rfl⟩
      · have : leftOf es seen = #[] := Array.eq_empty_of_size_eq_zero z
        rw [this]; rfl
    · obtain ⟨l1, l2, hl⟩ := List.append_of_mem he
      have hw1 : w1.heap = w.heap := by rcases hal with rfl | rfl <;> rfl
      have he1 : Ev s.H w s.H w1 := by
        rcases hal with rfl | rfl
        · exact Ev.refl _ _
        · exact ev_drew _ _
      have wr1 : w1.heap[r]? = some (.mapIter (some b) since seen c0) := by rw [hw1]; exact wr
      have hset := MapKept.heap_set (o' := .mapIter (some b) since (seen.push e.born) clock) wr1
      have hH1 : HOk w1 s.H := by
        rcases hal with rfl | rfl
        · exact m.H
        · exact m.H.drew
      have hev : Ev s.H w1 (s.H.upd r (.obj (.mapIter (some b) since (seen.push e.born) clock))) (setBlock w1 r (.mapIter (some b) since (seen.push e.born) clock)) :=
        ev_block (by rw [hr]; simp) rfl rfl rfl (by simp [setBlock]) (fun c hc => hset.2 c hc) fun cs t fr h => by
          rw [wr1] at h
          cases h
      have hok := hok_block hH1 hev (fun c hc => hset.2 c hc) (x := .obj (.mapIter (some b) since (seen.push e.born) clock)) hset.1
      have hbb : (s.H.upd r (.obj (.mapIter (some b) since (seen.push e.born) clock))) b = some (.obj (.map es clock)) := by rw [Heap.upd_ne hbr]; exact hb
      obtain ⟨hem, hes⟩ := mem_left he
      refine ⟨.tuple #[.bool true, e.key, e.val], _, _, _, ?_, ?_, hok, he1.trans hev, h1 (l1.map fun e => (e.key, e.val)) (e.key, e.val) (l2.map fun e => (e.key, e.val)) _ (by rw [hl, List.map_append, List.map_cons]) ⟨es, clock, since, seen.push e.born, clock, hbb, Heap.upd_same .., hold, hsk, hsk, hnd, ?_⟩ ⟨es, clock, since, seen, e, hbb, Heap.upd_same .., hem, hnd, rfl⟩ (fun c hc => Heap.upd_ne hc)⟩
      · simp only [execOp, e0, hx2, Sem.run_bind, hrun, Result.andThen, Sem.run_pure]
      · simp only [D.is, valsAll]
        exact ⟨_, rfl, _, _, rfl, rfl, _, _, rfl, rfl, _, _, rfl, rfl, rfl⟩
      · rw [left_push hnd hl, List.map_append]
theorem WO_entry {cx : Cx} {o : Oper} {K : St → Prop} {s : St} {x : Operand} {b r : Nat} {p : Value × Value} (e0 : o.op = .entry x) (hd : okd cx.n o.dst)
    (hx : s.ev x = .val (.pointer (some ⟨r, 0, none⟩))) (hR : RngE s.H b r p) (h : K (s.put o.dst (.tup [.val p.1, .val p.2]))) : WO cx o K s :=
  WO_pure (by simp [e0]) hd fun a w m => by
    have hx1 := m.ev_ x
    rw [hx] at hx1
    have hx2 := is_val hx1
    obtain ⟨es, clock, since, seen, e, hb, hr, hem, hnd, rfl⟩ := hR
    refine ⟨.tuple #[e.key, e.val], _, ?_, ?_, h⟩
    · simp only [execOp, e0, hx2, Sem.run_bind, run_entry_at (P := cx.P) w r b since seen es clock e (m.H _ _ hr) (m.H _ _ hb) hem hnd, Result.andThen, Sem.run_pure]
    · simp only [D.is, valsAll]
      exact ⟨_, rfl, _, _, rfl, rfl, _, _, rfl, rfl, rfl⟩
end Go.Proofs.YtgfhgeelfaalmaaGreatDoor
/- A program logic over descriptions of values. Part 28b: an iterator that keeps a row of its own between its yields. -/
namespace Go.Proofs.YtgfhgeelfaalmaaGreatDoor
open Go.RowKit
set_option linter.unusedVariables false
set_option linter.unusedSimpArgs false
/-- The heap of a round, with the iterator's own row. -/
def YJ {α : Type} (J : List α → Heap → Prop) (pre : List α) (b : Nat) (y : HObj) (H : Heap) : Prop := ∃ Hc, H = Hc.upd b y ∧ (∀ z, Hc b = some z → ∃ o, z = .obj o) ∧ J pre Hc
theorem Match.hold {cx : Cx} {s : St} {a : Act} {w : World} (m : Match cx s a w) {b : Nat} {t : TypeId} {o sz : Nat} {els : List (List D)} (hb : s.H b = some (.row t o sz els)) : ∃ ob, w.heap[b]? = some ob ∧ Ev s.H w (s.H.upd b (.obj ob)) w ∧ Match cx (s.withH (s.H.upd b (.obj ob))) a w := by
  obtain ⟨cs, fr, h1, _⟩ := m.H b _ hb
  have hev : Ev s.H w (s.H.upd b (.obj (.cells cs t fr))) w := ev_block (by rw [hb]; simp) rfl rfl rfl rfl (fun _ _ => rfl) fun cs' t' fr' h => ⟨cs', fr', h, rfl⟩
  exact ⟨_, h1, hev, m.go hev (hok_block m.H hev (fun _ _ => rfl) h1)⟩
theorem WO_yieldF {α : Type} {cx : Cx} {o : Oper} {K : St → Prop} {s : St} {c : Call} {f : Operand} {l : Nat} {J Jx : List α → Heap → Prop} {encs : α → List D} {xs : List α} (pre : List α) (x : α) {b : Nat} {t : TypeId} {ro sz : Nat} {els : List (List D)}
    (hop : o.op = .call c) (hcal : c.callee = .value f) (hf : s.ev f = yD l) (hd : okd cx.n o.dst) (hY : YC cx.P l cx.H0 cx.w0 J Jx encs xs) (hC : Clos cx.H0 J) (hb : cx.H0 b = none) (hx : (pre ++ [x]) <+: xs) (hJ : YJ J pre b (.row t ro sz els) s.H) (ha : s.evs c.args = encs x)
    (ht : ∀ H', YJ J (pre ++ [x]) b (.row t ro sz els) H' → K ((s.withH H').put o.dst (.val (.bool true)))) (hn : ∀ H', YJ Jx (pre ++ [x]) b (.row t ro sz els) H' → K ((s.withH H').put o.dst (.val (.bool false)))) : WO cx o K s := fun a w m => by
  refine ⟨about_FR, ?_⟩
  rw [sem_FR (by simp [hop])]
  obtain ⟨Hc, hH, hz, hj⟩ := hJ
  have hsb : s.H b = some (.row t ro sz els) := by rw [hH, Heap.upd_same]
  obtain ⟨ob, hob, hev0, m0⟩ := m.hold hsb
  have hH0 : s.H.upd b (.obj ob) = Hc.upd b (.obj ob) := by rw [hH, Heap.upd_upd]
  have hj0 : J pre (s.H.upd b (.obj ob)) := by rw [hH0]; exact hC _ _ _ _ hb hz hj
  have hfv := m.ev_ f
  rw [hf] at hfv
  simp only [yD, D.is] at hfv
  have hargs := m0.evs_ c.args
  have ha0 : (s.withH (s.H.upd b (.obj ob))).evs c.args = encs x := ha
  rw [ha0] at hargs
  obtain ⟨fn, tmps, assign, body, hy, hR⟩ := hY pre x _ w _ hx hj0 m0.H m0.ev hargs
  have hrun : (execOp a.eval o).run cx.P w = .ok (.round l fn tmps assign body) w := by
    simp only [execOp, hop, resolve, hcal, hfv, Deferred.ofValue, Sem.run_bind, Sem.run_pure, Result.andThen, invoke]
    have e : (c.args.map a.eval).toList.toArray = c.args.map a.eval := Array.toArray_toList
    rw [e] at hy
    simpa using hy
  rw [hrun, Oper.uponIn_round]
  refine ⟨fun hd0 => (by cases hd0), ?_⟩
  have hR2 : RoundIn (FR cx.ro) 8 cx.P l fn tmps assign body w _ := hR
  have thaw : ∀ (H' : Heap) (w' : World), HOk w' H' → Ev (s.H.upd b (.obj ob)) w H' w' → H' b = some (.obj ob) → Match cx (s.withH (H'.upd b (.row t ro sz els))) a w' := fun H' w' h1 h2 h3 => by
    have h4 : w'.heap[b]? = some ob := h1 b _ h3
    have hev1 : Ev H' w' (H'.upd b (.row t ro sz els)) w' := ev_block (by rw [h3]; simp) rfl rfl rfl rfl (fun _ _ => rfl) fun cs' t' fr' h => ⟨cs', fr', h, rfl⟩
    have hev2 : Ev s.H w (H'.upd b (.row t ro sz els)) w' := (hev0.trans h2).trans hev1
    exact m.go hev2 (hok_block h1 hev1 (fun _ _ => rfl) (hev2.objAt (h4.trans hob.symm) (m.H b _ hsb)))
  refine hR2.mono fun e w' ⟨H', h1, h2, h5, h3⟩ => ?_
  have h6 : H' b = some (.obj ob) := h5 b ob hb (Heap.upd_same _ _ _)
  rcases h3 with ⟨rfl, h3⟩ | ⟨rfl, h3⟩
  · exact ⟨_, (thaw H' w' h1 h2 h6).put (okd_spec hd) (by simp only [D.is]), ht _ ⟨H', rfl, fun z h => ⟨ob, by rw [h6] at h; injection h with h; exact h.symm⟩, h3⟩⟩
  · exact ⟨_, (thaw H' w' h1 h2 h6).put (okd_spec hd) (by simp only [D.is]), hn _ ⟨H', rfl, fun z h => ⟨ob, by rw [h6] at h; injection h with h; exact h.symm⟩, h3⟩⟩
/-- How the iterator may end. -/
def YFin {α : Type} (J Jx : List α → Heap → Prop) (xs : List α) (H0 H : Heap) : Prop :=
  (J xs H ∨ ∃ pre, Jx pre H) ∨ ∃ b t o sz els, H0 b = none ∧ (YJ J xs b (.row t o sz els) H ∨ ∃ pre, YJ Jx pre b (.row t o sz els) H)
theorem iter_ofF {α : Type} {P : Program} {f : FuncId} {fn : Func} {c : Code} {caps : List D} {encs : α → List D} {xs : List α} {ok : Heap → Prop} (N : Nat) (hf : P.funcs[f]? = some fn) (hname : (fn.name == "runtime.NumGoroutine") = false) (hb : fn.body = some c) (hN : fn.ntmps = N) (hrs : fn.results = #[]) (hl : caps.length + 1 ≤ N)
    (h : ∀ (l : Nat) (J Jx : List α → Heap → Prop) (H : Heap) (w0 : World) (g0 : GOk w0 H) (Q : Exit → St → Prop), ok H → J [] H → Clos H J → Clos H Jx → YC P l H w0 J Jx encs xs → (∀ e s, e = .normal ∨ e = .ret → s.df = [] → YFin J Jx xs H s.H → Q e s) → W ⟨P, none, N, H, w0, g0⟩ c Q (St.init (yD l :: caps) H)) : Iter P f caps encs xs ok := And.intro (ent_of hf hname hb) fun l J Jx H w vs hok hH hG hJ hC hCx hY hvs => by
  have main : Calls P f vs.toArray w fun e w' => ∃ v d H', e = .returned v ∧ D.is w' H'.others d v ∧ HOk w' H' ∧ Ev H w H' w' ∧ (J xs H' ∨ ∃ pre, Jx pre H') := by
    refine calls_of_FR (ro := none) (n := 9) (callsIn_of_wp hf hb trivial ?_ rfl)
    have hlen := valsAll_length hvs
    obtain ⟨ds, hds⟩ : ∃ ds, ds = yD l :: caps := ⟨_, rfl⟩
    have hl' : ds.length ≤ N := by rw [hds]; exact hl
    have m : Match ⟨P, none, N, H, w, hG⟩ (St.init (yD l :: caps) H) { tmps := vs.toArray ++ Array.replicate (fn.ntmps - vs.toArray.size) undef, defers := [] } w := by
      rw [← hds] at hlen hvs ⊢
      refine ⟨by simp; omega, rfl, fun t => ?_, hH, Ev.refl _ _⟩
      simp only [St.init]
      rcases Nat.lt_or_ge t ds.length with hlt | hge
      · obtain ⟨v, h1, h2⟩ := valsAll_get hvs t ds[t] (by simp [hlt])
        have e1 : ds.getD t (.val undef) = ds[t] := by simp [List.getD, hlt]
        have e2 : (vs.toArray ++ Array.replicate (fn.ntmps - vs.toArray.size) undef).getD t undef = v := by
          rw [Array.getD_eq_getD_getElem?, Array.getElem?_append_left (by simp; omega)]
          simp [h1]
        rw [e1, e2]; exact h2
      · have e1 : ds.getD t (.val undef) = .val undef := by simp [List.getD, hge]
        rw [e1]
        simp only [D.is]
        rw [Array.getD_eq_getD_getElem?, Array.getElem?_append_right (by simp; omega), Array.getElem?_replicate]
        split <;> rfl
    refine wpIn_mono (h l J Jx H w hG (fun e s => (e = .normal ∨ e = .ret) ∧ s.df = [] ∧ YFin J Jx xs H s.H) hok hJ hC hCx hY (fun e s he hdf hr => ⟨he, hdf, hr⟩) _ _ m) fun e a' w' ⟨s', m', he, hdf, q⟩ => ?_
    have fin : ∃ s2 : St, s2.df = [] ∧ Match ⟨P, none, N, H, w, hG⟩ s2 a' w' ∧ (J xs s2.H ∨ ∃ pre, Jx pre s2.H) := by
      rcases q with q | ⟨b, t, o, sz, els, hb0, q⟩
      · exact ⟨s', hdf, m', q⟩
      · rcases q with ⟨Hc, hH1, hz, hj⟩ | ⟨pre, Hc, hH1, hz, hj⟩
        · obtain ⟨ob, _, _, m2⟩ := m'.hold (b := b) (by rw [hH1, Heap.upd_same])
          refine ⟨s'.withH (s'.H.upd b (.obj ob)), hdf, m2, .inl ?_⟩
          show J xs (s'.H.upd b (.obj ob))
          rw [hH1, Heap.upd_upd]
          exact hC _ _ _ _ hb0 hz hj
        · obtain ⟨ob, _, _, m2⟩ := m'.hold (b := b) (by rw [hH1, Heap.upd_same])
          refine ⟨s'.withH (s'.H.upd b (.obj ob)), hdf, m2, .inr ⟨pre, ?_⟩⟩
          show Jx pre (s'.H.upd b (.obj ob))
          rw [hH1, Heap.upd_upd]
          exact hCx _ _ _ _ hb0 hz hj
    obtain ⟨s2, hdf2, m2, hj2⟩ := fin
    have q2 : endQ ⟨P, none, N, H, w, hG⟩ fn (fun _ H' => J xs H' ∨ ∃ pre, Jx pre H') .ret s2 := endQ_ret (.inr rfl) hdf2 (by rw [hrs]; exact ⟨s2.H, Heap.le_refl _, hj2⟩)
    have key : a'.defers = [] ∧ ∃ v, (results fn a'.tmps).run P w' = .ok v w' ∧ ∃ v' d H', Ending.returned v = .returned v' ∧ D.is w' H'.others d v' ∧ HOk w' H' ∧ Ev H w H' w' ∧ (J xs H' ∨ ∃ pre, Jx pre H') := by
      obtain ⟨hdf, hres⟩ := q2
      obtain ⟨v, d, H', h1, h2, h3, h4⟩ := hres a' w' m2
      have m3 := m2.less h3
      exact ⟨m2.df.trans hdf, v, h1, v, d, H', rfl, h2, m3.H, m3.ev, h4⟩
    rcases he with rfl | rfl
    · obtain ⟨h1, v, h2, h3⟩ := key
      exact ⟨h1, v, h2, h3⟩
    · obtain ⟨h1, v, h2, h3⟩ := key
      exact ⟨h1, v, h2, h3⟩
  refine main.mono ?_
  rintro e w' ⟨v, d, H', h1, _, h3, h4, h5⟩
  exact ⟨v, H', h1, h3, h4, h5⟩
/-- A heap without its objects. -/
def Heap.nob (H : Heap) : Heap := fun b => match H b with
  | some (.obj _) => Option.none
  | x => x
theorem nob_no (H : Heap) : ∀ b o, H.nob b ≠ some (.obj o) := fun b o h => by
  unfold Heap.nob at h
  split at h
  · cases h
  · rename_i hx; exact hx o h
theorem nob_le (H : Heap) : H.nob.le H := fun b x h => by
  unfold Heap.nob at h
  split at h
  · cases h
  · exact h
theorem nob_some {H : Heap} {b : Nat} {x : HObj} (h : H b = some x) (hx : ∀ o, x ≠ .obj o) : H.nob b = some x := by
  unfold Heap.nob
  split
  · rename_i o e
    rw [h] at e
    injection e with e
    exact absurd e (hx o)
  · exact h
theorem nob_none {H : Heap} {b : Nat} (h : H b = Option.none) : H.nob b = Option.none := by
  unfold Heap.nob; rw [h]
theorem nob_full {H H1 Hc : Heap} (h1 : H.nob.le Hc) (h2 : H.le H1) (h3 : objs H1 Hc) : H.le Hc := fun b x hb => by
  cases x with
  | obj o => exact h3 b o (h2 b _ hb)
  | row t o sz els => exact h1 b _ (nob_some hb (by simp))
  | map m => exact h1 b _ (nob_some hb (by simp))
  | hid => exact h1 b _ (nob_some hb (by simp))
theorem gl_nob {H : Heap} {e : TypeId} {sz : Nat} {els : List (List D)} {d : D} {Hc : Heap} {ob : Option Nat} (h : Gl H.nob e sz els d Hc ob) (hle : H.le Hc) : Gl H e sz els d Hc ob := by
  rcases h with h | ⟨c, o, h1, h2, h3, h4⟩
  · exact .inl h
  · refine .inr ⟨c, o, h1, h2, ?_, h4⟩
    cases hx : H c with
    | none => rfl
    | some x =>
      cases x with
      | obj o => have := hle _ _ hx; rw [h4] at this; cases this
      | row t o sz els => rw [nob_some hx (by simp)] at h3; cases h3
      | map m => rw [nob_some hx (by simp)] at h3; cases h3
      | hid => rw [nob_some hx (by simp)] at h3; cases h3
theorem le_rleP {H0 H H' : Heap} (hno : ∀ b o, H0 b ≠ some (.obj o)) (h : H0.le H) (hr : rle H H') : H0.le H' := fun b x hb => hr b x (h b x hb) (fun o e => hno b o (by rw [hb, e]))
end Go.Proofs.YtgfhgeelfaalmaaGreatDoor
/- What a row says of a listed package variable (a row of pairs of whole numbers), as known cells. -/
namespace Go.Proofs.YtgfhgeelfaalmaaGreatDoor
open Go.ChangeShapes Go.RowKit
set_option linter.unusedVariables false
set_option linter.unusedSimpArgs false
theorem flat_pairs (l : List (Int × Int)) : ∀ (cs : List Value), cs.length = 2 * l.length → (∀ i (h : i < l.length), (cs.drop (i * 2)).take 2 = [.int .i64 l[i].1, .int .i64 l[i].2]) → cs = l.flatMap fun p => [Value.int .i64 p.1, Value.int .i64 p.2] := by
  induction l with
  | nil => intro cs hl _; exact List.eq_nil_of_length_eq_zero (by simpa using hl)
  | cons p l ih =>
    intro cs hl h
    have h0 := h 0 (by simp)
    rw [Nat.zero_mul, List.drop_zero] at h0
    have hc : cs = cs.take 2 ++ cs.drop 2 := (List.take_append_drop 2 cs).symm
    rw [List.flatMap_cons, hc, h0]
    congr 1
    refine ih (cs.drop 2) (by rw [List.length_drop, hl, List.length_cons]; omega) fun i hi => ?_
    have := h (i + 1) (by rw [List.length_cons]; omega)
    rw [List.drop_drop, show 2 + i * 2 = (i + 1) * 2 by omega, this]
    rfl
theorem pair_cells {P : Program} {w : World} {t e ti : TypeId} {n fuel : Nat} {f0 f1 : Field} {cs : List Value} {l : List (Int × Int)} {p : List MemPlace} (ht : P.underlying t = some (.array n e)) (he : P.underlying e = some (.struct #[f0, f1])) (hi : P.underlying ti = some (.int .i64))
    (h0 : f0.type = ti ∧ f0.offset = 0) (h1 : f1.type = ti ∧ f1.offset = 1) (ce : P.cellsOf e = 2) (ct : P.cellsOf t = 2 * n) (ci : P.cellsOf ti = 1) (hl : l.length = n)
    (h : DataW.trod (fun _ => ()) P w 0 (fun _ => true) false fuel t cs = some (.agg (l.map fun p => .agg [.lit (.int .i64 p.1), .lit (.int .i64 p.2)]), p)) : cs = l.flatMap fun p => [Value.int .i64 p.1, Value.int .i64 p.2] := by
  obtain ⟨xs, m, _, ex, hcs, hxl, hel⟩ := DataW.trod_array ht h
  have e3 : (xs.map (·.1)) = l.map fun p => DataW.agg [.lit (.int .i64 p.1), .lit (.int .i64 p.2)] := (DataW.agg.inj (Prod.mk.inj ex).1).symm
  refine flat_pairs l cs (by rw [hcs, ct, hl]) fun i hi' => ?_
  have hE := hel i (by omega)
  rw [ce, List.getElem?_eq_getElem (by omega)] at hE
  obtain ⟨y0, y1, k, ey, hlen, e0, e1⟩ := trod_struct2 he hE
  rw [h0.1, h0.2, ci, List.drop_zero] at e0
  rw [h1.1, h1.2, ci] at e1
  obtain ⟨z0, a0, b0, _⟩ := DataW.trod_int hi e0
  obtain ⟨z1, a1, b1, _⟩ := DataW.trod_int hi e1
  have e4 : (xs.map (·.1))[i]? = (l.map fun p => (DataW.agg [.lit (.int .i64 p.1), .lit (.int .i64 p.2)] : DataW Unit))[i]? := by rw [e3]
  rw [List.getElem?_map, List.getElem?_map, List.getElem?_eq_getElem (by omega : i < xs.length), List.getElem?_eq_getElem hi', ey, b0, b1] at e4
  simp only [Option.map_some, Option.some.injEq, DataW.agg.injEq, List.cons.injEq, DataW.lit.injEq, Lit.int.injEq, true_and, and_true] at e4
  obtain ⟨r, hr⟩ : ∃ r, r = (cs.drop (i * 2)).take 2 := ⟨_, rfl⟩
  rw [← hr] at a0 a1 hlen ⊢
  rw [ce] at hlen
  match r, hlen with
  | [u, v], _ =>
    simp only [List.take_succ_cons, List.take_zero, List.drop_succ_cons, List.drop_zero, List.cons.injEq, and_true] at a0 a1
    rw [a0, a1, e4.1, e4.2]
theorem var_cells {P : Program} {w : World} {n : String} {g : Nat} {cs : Array Value} (hg : P.globalNamed n = some g) (h : w.var? P n = some cs) : ∃ t fr, w.heap[g]? = some (Obj.cells cs t fr) := by
  simp only [World.var?, hg, Option.bind_some] at h
  split at h
  · rename_i c t fr e; injection h with h; subst h; exact ⟨t, fr, e⟩
  · cases h
end Go.Proofs.YtgfhgeelfaalmaaGreatDoor
