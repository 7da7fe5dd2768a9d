/- Lemmas and contracts of functions, several texts in one: EW LSb GK. -/
import Derived.Test.YtgfhgeelfaalmaaGreatDoorK05
import Derived.Maps.RangeRun
import Derived.Test.YtgfhgeelfaalmaaGreatDoorK03
import Derived.OpenShut
import Derived.ChangeSame
namespace Go.Proofs.YtgfhgeelfaalmaaGreatDoor
open Go.RowKit
open Go.ChangeMaps (setBlock)
set_option linter.unusedVariables false
set_option linter.unusedSimpArgs false
def Rng (H : Heap) (b r : Nat) (todo : List (Value × Value)) : Prop :=
  ∃ es clock since seen c0, H b = some (.obj (.map es clock)) ∧ H r = some (.obj (.mapIter (some b) since seen c0)) ∧ (∀ x ∈ es.toList, x.born < since) ∧ since ≤ c0 ∧ since ≤ clock ∧
    (es.toList.map (·.born)).Nodup ∧ todo = (leftOf es seen).toList.map fun e => (e.key, e.val)
def RngE (H : Heap) (b r : Nat) (p : Value × Value) : Prop :=
  ∃ (es : Array MapEntry) (clock since : Nat) (seen : Array Nat) (e : MapEntry), H b = some (.obj (.map es clock)) ∧ H r = some (.obj (.mapIter (some b) since (seen.push e.born) clock)) ∧ e ∈ es.toList ∧ (es.toList.map (·.born)).Nodup ∧ p = (e.key, e.val)
theorem Rng.keep {H H' : Heap} {b r : Nat} {todo : List (Value × Value)} (h : Rng H b r todo) (hb : H' b = H b) (hr : H' r = H r) : Rng H' b r todo := by
  obtain ⟨es, clock, since, seen, c0, h1, h2, h3⟩ := h
  exact ⟨es, clock, since, seen, c0, hb.trans h1, hr.trans h2, h3⟩
theorem RngE.keep {H H' : Heap} {b r : Nat} {p : Value × Value} (h : RngE H b r p) (hb : H' b = H b) (hr : H' r = H r) : RngE H' b r p := by
  obtain ⟨es, clock, since, seen, e, h1, h2, h3⟩ := h
  exact ⟨es, clock, since, seen, e, hb.trans h1, hr.trans h2, h3⟩
end Go.Proofs.YtgfhgeelfaalmaaGreatDoor
namespace Go.Proofs.YtgfhgeelfaalmaaGreatDoor
open Go.RowKit
set_option linter.unusedVariables false
set_option linter.unusedSimpArgs false
def YJ {α : Type} (J : List α → Heap → Prop) (pre : List α) (b : Nat) (y : HObj) (H : Heap) : Prop := ∃ Hc, H = Hc.upd b y ∧ (∀ z, Hc b = some z → ∃ o, z = .obj o) ∧ J pre Hc
theorem Match.hold {cx : Cx} {s : St} {a : Act} {w : World} (m : Match cx s a w) {b : Nat} {t : TypeId} {o sz : Nat} {els : List (List D)} (hb : s.H b = some (.row t o sz els)) : ∃ ob, w.heap[b]? = some ob ∧ Ev s.H w (s.H.upd b (.obj ob)) w ∧ Match cx (s.withH (s.H.upd b (.obj ob))) a w := by
  obtain ⟨cs, fr, h1, _⟩ := m.H b _ hb
  have hev : Ev s.H w (s.H.upd b (.obj (.cells cs t fr))) w := ev_block (by rw [hb]; simp) rfl rfl rfl rfl (fun _ _ => rfl) fun cs' t' fr' h => ⟨cs', fr', h, rfl⟩
  exact ⟨_, h1, hev, m.go hev (hok_block m.H hev (fun _ _ => rfl) h1)⟩
theorem WO_yieldF {α : Type} {cx : Cx} {o : Oper} {K : St → Prop} {s : St} {c : Call} {f : Operand} {l : Nat} {J Jx : List α → Heap → Prop} {encs : α → List D} {xs : List α} (pre : List α) (x : α) {b : Nat} {t : TypeId} {ro sz : Nat} {els : List (List D)}
    (hop : o.op = .call c) (hcal : c.callee = .value f) (hf : s.ev f = yD l) (hd : okd cx.n o.dst) (hY : YC cx.P l cx.H0 cx.w0 J Jx encs xs) (hC : Clos cx.H0 J) (hb : cx.H0 b = none) (hx : (pre ++ [x]) <+: xs) (hJ : YJ J pre b (.row t ro sz els) s.H) (ha : s.evs c.args = encs x)
    (ht : ∀ H', YJ J (pre ++ [x]) b (.row t ro sz els) H' → K ((s.withH H').put o.dst (.val (.bool true)))) (hn : ∀ H', YJ Jx (pre ++ [x]) b (.row t ro sz els) H' → K ((s.withH H').put o.dst (.val (.bool false)))) : WO cx o K s := fun a w m => by
  refine ⟨about_FR, ?_⟩
  rw [sem_FR (by simp [hop])]
  obtain ⟨Hc, hH, hz, hj⟩ := hJ
  have hsb : s.H b = some (.row t ro sz els) := by rw [hH, Heap.upd_same]
  obtain ⟨ob, hob, hev0, m0⟩ := m.hold hsb
  have hH0 : s.H.upd b (.obj ob) = Hc.upd b (.obj ob) := by rw [hH, Heap.upd_upd]
  have hj0 : J pre (s.H.upd b (.obj ob)) := by rw [hH0]; exact hC _ _ _ _ hb hz hj
  have hfv := m.ev_ f
  rw [hf] at hfv
  simp only [yD, D.is] at hfv
  have hargs := m0.evs_ c.args
  have ha0 : (s.withH (s.H.upd b (.obj ob))).evs c.args = encs x := ha
  rw [ha0] at hargs
  obtain ⟨fn, tmps, assign, body, hy, hR⟩ := hY pre x _ w _ hx hj0 m0.H m0.ev hargs
  have hrun : (execOp a.eval o).run cx.P w = .ok (.round l fn tmps assign body) w := by
    simp only [execOp, hop, resolve, hcal, hfv, Deferred.ofValue, Sem.run_bind, Sem.run_pure, Result.andThen, invoke]
    have e : (c.args.map a.eval).toList.toArray = c.args.map a.eval := Array.toArray_toList
    rw [e] at hy
    simpa using hy
  rw [hrun, Oper.uponIn_round]
  refine ⟨fun hd0 => (by cases hd0), ?_⟩
  have hR2 : RoundIn (FR cx.ro) 8 cx.P l fn tmps assign body w _ := hR
  have thaw : ∀ (H' : Heap) (w' : World), HOk w' H' → Ev (s.H.upd b (.obj ob)) w H' w' → H' b = some (.obj ob) → Match cx (s.withH (H'.upd b (.row t ro sz els))) a w' := fun H' w' h1 h2 h3 => by
    have h4 : w'.heap[b]? = some ob := h1 b _ h3
    have hev1 : Ev H' w' (H'.upd b (.row t ro sz els)) w' := ev_block (by rw [h3]; simp) rfl rfl rfl rfl (fun _ _ => rfl) fun cs' t' fr' h => ⟨cs', fr', h, rfl⟩
    have hev2 : Ev s.H w (H'.upd b (.row t ro sz els)) w' := (hev0.trans h2).trans hev1
    exact m.go hev2 (hok_block h1 hev1 (fun _ _ => rfl) (hev2.objAt (h4.trans hob.symm) (m.H b _ hsb)))
  refine hR2.mono fun e w' ⟨H', h1, h2, h5, h3⟩ => ?_
  have h6 : H' b = some (.obj ob) := h5 b ob hb (Heap.upd_same _ _ _)
  rcases h3 with ⟨rfl, h3⟩ | ⟨rfl, h3⟩
  · exact ⟨_, (thaw H' w' h1 h2 h6).put (okd_spec hd) (by simp only [D.is]), ht _ ⟨H', rfl, fun z h => ⟨ob, by rw [h6] at h; injection h with h; exact h.symm⟩, h3⟩⟩
  · exact ⟨_, (thaw H' w' h1 h2 h6).put (okd_spec hd) (by simp only [D.is]), hn _ ⟨H', rfl, fun z h => ⟨ob, by rw [h6] at h; injection h with h; exact h.symm⟩, h3⟩⟩
def YFin {α : Type} (J Jx : List α → Heap → Prop) (xs : List α) (H0 H : Heap) : Prop :=
  (J xs H ∨ ∃ pre, Jx pre H) ∨ ∃ b t o sz els, H0 b = none ∧ (YJ J xs b (.row t o sz els) H ∨ ∃ pre, YJ Jx pre b (.row t o sz els) H)
theorem iter_ofF {α : Type} {P : Program} {f : FuncId} {fn : Func} {c : Code} {caps : List D} {encs : α → List D} {xs : List α} {ok : Heap → Prop} (N : Nat) (hf : P.funcs[f]? = some fn) (hname : (fn.name == "runtime.NumGoroutine") = false) (hb : fn.body = some c) (hN : fn.ntmps = N) (hrs : fn.results = #[]) (hl : caps.length + 1 ≤ N)
    (h : ∀ (l : Nat) (J Jx : List α → Heap → Prop) (H : Heap) (w0 : World) (g0 : GOk w0 H) (Q : Exit → St → Prop), ok H → J [] H → Clos H J → Clos H Jx → YC P l H w0 J Jx encs xs → (∀ e s, e = .normal ∨ e = .ret → s.df = [] → YFin J Jx xs H s.H → Q e s) → W ⟨P, none, N, H, w0, g0⟩ c Q (St.init (yD l :: caps) H)) : Iter P f caps encs xs ok := And.intro (ent_of hf hname hb) fun l J Jx H w vs hok hH hG hJ hC hCx hY hvs => by
  have main : Calls P f vs.toArray w fun e w' => ∃ v d H', e = .returned v ∧ D.is w' H'.others d v ∧ HOk w' H' ∧ Ev H w H' w' ∧ (J xs H' ∨ ∃ pre, Jx pre H') := by
    refine calls_of_FR (ro := none) (n := 9) (callsIn_of_wp hf hb trivial ?_ rfl)
    have hlen := valsAll_length hvs
    obtain ⟨ds, hds⟩ : ∃ ds, ds = yD l :: caps := ⟨_, rfl⟩
    have hl' : ds.length ≤ N := by rw [hds]; exact hl
    have m : Match ⟨P, none, N, H, w, hG⟩ (St.init (yD l :: caps) H) { tmps := vs.toArray ++ Array.replicate (fn.ntmps - vs.toArray.size) undef, defers := [] } w := by
      rw [← hds] at hlen hvs ⊢
      refine ⟨by simp; omega, rfl, fun t => ?_, hH, Ev.refl _ _⟩
      simp only [St.init]
      rcases Nat.lt_or_ge t ds.length with hlt | hge
      · obtain ⟨v, h1, h2⟩ := valsAll_get hvs t ds[t] (by simp [hlt])
        have e1 : ds.getD t (.val undef) = ds[t] := by simp [List.getD, hlt]
        have e2 : (vs.toArray ++ Array.replicate (fn.ntmps - vs.toArray.size) undef).getD t undef = v := by
          rw [Array.getD_eq_getD_getElem?, Array.getElem?_append_left (by simp; omega)]
          simp [h1]
        rw [e1, e2]; exact h2
      · have e1 : ds.getD t (.val undef) = .val undef := by simp [List.getD, hge]
        rw [e1]
        simp only [D.is]
        rw [Array.getD_eq_getD_getElem?, Array.getElem?_append_right (by simp; omega), Array.getElem?_replicate]
        split <;> rfl
    refine wpIn_mono (h l J Jx H w hG (fun e s => (e = .normal ∨ e = .ret) ∧ s.df = [] ∧ YFin J Jx xs H s.H) hok hJ hC hCx hY (fun e s he hdf hr => ⟨he, hdf, hr⟩) _ _ m) fun e a' w' ⟨s', m', he, hdf, q⟩ => ?_
    have fin : ∃ s2 : St, s2.df = [] ∧ Match ⟨P, none, N, H, w, hG⟩ s2 a' w' ∧ (J xs s2.H ∨ ∃ pre, Jx pre s2.H) := by
      rcases q with q | ⟨b, t, o, sz, els, hb0, q⟩
      · exact ⟨s', hdf, m', q⟩
      · rcases q with ⟨Hc, hH1, hz, hj⟩ | ⟨pre, Hc, hH1, hz, hj⟩
        · obtain ⟨ob, _, _, m2⟩ := m'.hold (b := b) (by rw [hH1, Heap.upd_same])
          refine ⟨s'.withH (s'.H.upd b (.obj ob)), hdf, m2, .inl ?_⟩
          show J xs (s'.H.upd b (.obj ob))
          rw [hH1, Heap.upd_upd]
          exact hC _ _ _ _ hb0 hz hj
        · obtain ⟨ob, _, _, m2⟩ := m'.hold (b := b) (by rw [hH1, Heap.upd_same])
          refine ⟨s'.withH (s'.H.upd b (.obj ob)), hdf, m2, .inr ⟨pre, ?_⟩⟩
          show Jx pre (s'.H.upd b (.obj ob))
          rw [hH1, Heap.upd_upd]
          exact hCx _ _ _ _ hb0 hz hj
    obtain ⟨s2, hdf2, m2, hj2⟩ := fin
    have q2 : endQ ⟨P, none, N, H, w, hG⟩ fn (fun _ H' => J xs H' ∨ ∃ pre, Jx pre H') .ret s2 := endQ_ret (.inr rfl) hdf2 (by rw [hrs]; exact ⟨s2.H, Heap.le_refl _, hj2⟩)
    have key : a'.defers = [] ∧ ∃ v, (results fn a'.tmps).run P w' = .ok v w' ∧ ∃ v' d H', Ending.returned v = .returned v' ∧ D.is w' H'.others d v' ∧ HOk w' H' ∧ Ev H w H' w' ∧ (J xs H' ∨ ∃ pre, Jx pre H') := by
      obtain ⟨hdf, hres⟩ := q2
      obtain ⟨v, d, H', h1, h2, h3, h4⟩ := hres a' w' m2
      have m3 := m2.less h3
      exact ⟨m2.df.trans hdf, v, h1, v, d, H', rfl, h2, m3.H, m3.ev, h4⟩
    rcases he with rfl | rfl
    · obtain ⟨h1, v, h2, h3⟩ := key
      exact ⟨h1, v, h2, h3⟩
    · obtain ⟨h1, v, h2, h3⟩ := key
      exact ⟨h1, v, h2, h3⟩
  refine main.mono ?_
  rintro e w' ⟨v, d, H', h1, _, h3, h4, h5⟩
  exact ⟨v, H', h1, h3, h4, h5⟩
def Heap.nob (H : Heap) : Heap := fun b => match H b with
  | some (.obj _) => Option.none
  | x => x
theorem nob_no (H : Heap) : ∀ b o, H.nob b ≠ some (.obj o) := fun b o h => by
  unfold Heap.nob at h
  split at h
  · cases h
  · rename_i hx; exact hx o h
theorem nob_le (H : Heap) : H.nob.le H := fun b x h => by
  unfold Heap.nob at h
  split at h
  · cases h
  · exact h
theorem nob_some {H : Heap} {b : Nat} {x : HObj} (h : H b = some x) (hx : ∀ o, x ≠ .obj o) : H.nob b = some x := by
  unfold Heap.nob
  split
  · rename_i o e
    rw [h] at e
    injection e with e
    exact absurd e (hx o)
  · exact h
theorem nob_none {H : Heap} {b : Nat} (h : H b = Option.none) : H.nob b = Option.none := by
  unfold Heap.nob; rw [h]
theorem nob_full {H H1 Hc : Heap} (h1 : H.nob.le Hc) (h2 : H.le H1) (h3 : objs H1 Hc) : H.le Hc := fun b x hb => by
  cases x with
  | obj o => exact h3 b o (h2 b _ hb)
  | row t o sz els => exact h1 b _ (nob_some hb (by simp))
  | map m => exact h1 b _ (nob_some hb (by simp))
  | hid => exact h1 b _ (nob_some hb (by simp))
theorem gl_nob {H : Heap} {e : TypeId} {sz : Nat} {els : List (List D)} {d : D} {Hc : Heap} {ob : Option Nat} (h : Gl H.nob e sz els d Hc ob) (hle : H.le Hc) : Gl H e sz els d Hc ob := by
  rcases h with h | ⟨c, o, h1, h2, h3, h4⟩
  · exact .inl h
  · refine .inr ⟨c, o, h1, h2, ?_, h4⟩
    cases hx : H c with
    | none => rfl
    | some x =>
      cases x with
      | obj o => have := hle _ _ hx; rw [h4] at this; cases this
      | row t o sz els => rw [nob_some hx (by simp)] at h3; cases h3
      | map m => rw [nob_some hx (by simp)] at h3; cases h3
      | hid => rw [nob_some hx (by simp)] at h3; cases h3
theorem le_rleP {H0 H H' : Heap} (hno : ∀ b o, H0 b ≠ some (.obj o)) (h : H0.le H) (hr : rle H H') : H0.le H' := fun b x hb => hr b x (h b x hb) (fun o e => hno b o (by rw [hb, e]))
end Go.Proofs.YtgfhgeelfaalmaaGreatDoor
namespace Go.Proofs.YtgfhgeelfaalmaaGreatDoor
open Go.ChangeShapes Go.RowKit
set_option linter.unusedVariables false
set_option linter.unusedSimpArgs false
theorem flat_pairs (l : List (Int × Int)) : ∀ (cs : List Value), cs.length = 2 * l.length → (∀ i (h : i < l.length), (cs.drop (i * 2)).take 2 = [.int .i64 l[i].1, .int .i64 l[i].2]) → cs = l.flatMap fun p => [Value.int .i64 p.1, Value.int .i64 p.2] := by
  induction l with
  | nil => intro cs hl _; exact List.eq_nil_of_length_eq_zero (by simpa using hl)
  | cons p l ih =>
    intro cs hl h
    have h0 := h 0 (by simp)
    rw [Nat.zero_mul, List.drop_zero] at h0
    have hc : cs = cs.take 2 ++ cs.drop 2 := (List.take_append_drop 2 cs).symm
    rw [List.flatMap_cons, hc, h0]
    congr 1
    refine ih (cs.drop 2) (by rw [List.length_drop, hl, List.length_cons]; omega) fun i hi => ?_
    have := h (i + 1) (by rw [List.length_cons]; omega)
    rw [List.drop_drop, show 2 + i * 2 = (i + 1) * 2 by omega, this]
    rfl
theorem pair_cells {P : Program} {w : World} {t e ti : TypeId} {n fuel : Nat} {f0 f1 : Field} {cs : List Value} {l : List (Int × Int)} {p : List MemPlace} (ht : P.underlying t = some (.array n e)) (he : P.underlying e = some (.struct #[f0, f1])) (hi : P.underlying ti = some (.int .i64))
    (h0 : f0.type = ti ∧ f0.offset = 0) (h1 : f1.type = ti ∧ f1.offset = 1) (ce : P.cellsOf e = 2) (ct : P.cellsOf t = 2 * n) (ci : P.cellsOf ti = 1) (hl : l.length = n)
    (h : DataW.trod (fun _ => ()) P w 0 (fun _ => true) false fuel t cs = some (.agg (l.map fun p => .agg [.lit (.int .i64 p.1), .lit (.int .i64 p.2)]), p)) : cs = l.flatMap fun p => [Value.int .i64 p.1, Value.int .i64 p.2] := by
  obtain ⟨xs, m, _, ex, hcs, hxl, hel⟩ := DataW.trod_array ht h
  have e3 : (xs.map (·.1)) = l.map fun p => DataW.agg [.lit (.int .i64 p.1), .lit (.int .i64 p.2)] := (DataW.agg.inj (Prod.mk.inj ex).1).symm
  refine flat_pairs l cs (by rw [hcs, ct, hl]) fun i hi' => ?_
  have hE := hel i (by omega)
  rw [ce, List.getElem?_eq_getElem (by omega)] at hE
  obtain ⟨y0, y1, k, ey, hlen, e0, e1⟩ := trod_struct2 he hE
  rw [h0.1, h0.2, ci, List.drop_zero] at e0
  rw [h1.1, h1.2, ci] at e1
  obtain ⟨z0, a0, b0, _⟩ := DataW.trod_int hi e0
  obtain ⟨z1, a1, b1, _⟩ := DataW.trod_int hi e1
  have e4 : (xs.map (·.1))[i]? = (l.map fun p => (DataW.agg [.lit (.int .i64 p.1), .lit (.int .i64 p.2)] : DataW Unit))[i]? := by rw [e3]
  rw [List.getElem?_map, List.getElem?_map, List.getElem?_eq_getElem (by omega : i < xs.length), List.getElem?_eq_getElem hi', ey, b0, b1] at e4
  simp only [Option.map_some, Option.some.injEq, DataW.agg.injEq, List.cons.injEq, DataW.lit.injEq, Lit.int.injEq, true_and, and_true] at e4
  obtain ⟨r, hr⟩ : ∃ r, r = (cs.drop (i * 2)).take 2 := ⟨_, rfl⟩
  rw [← hr] at a0 a1 hlen ⊢
  rw [ce] at hlen
  match r, hlen with
  | [u, v], _ =>
    simp only [List.take_succ_cons, List.take_zero, List.drop_succ_cons, List.drop_zero, List.cons.injEq, and_true] at a0 a1
    rw [a0, a1, e4.1, e4.2]
theorem var_cells {P : Program} {w : World} {n : String} {g : Nat} {cs : Array Value} (hg : P.globalNamed n = some g) (h : w.var? P n = some cs) : ∃ t fr, w.heap[g]? = some (Obj.cells cs t fr) := by
  simp only [World.var?, hg, Option.bind_some] at h
  split at h
  · rename_i c t fr e; injection h with h; subst h; exact ⟨t, fr, e⟩
  · cases h
end Go.Proofs.YtgfhgeelfaalmaaGreatDoor
