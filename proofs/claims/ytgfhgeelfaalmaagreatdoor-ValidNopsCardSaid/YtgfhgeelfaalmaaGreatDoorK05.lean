/- Lemmas and contracts of functions, several texts in one: LQ LR LS LT LU LV LW LX LY LZ EV. -/
import Derived.Test.YtgfhgeelfaalmaaGreatDoorK04
import Derived.Test.YtgfhgeelfaalmaaGreatDoorK02
import Derived.RangeFuncIn
import Derived.RangeFuncRecord
import Derived.RangeFuncLeaves
import Derived.RangeFuncSeq
namespace Go.Proofs.YtgfhgeelfaalmaaGreatDoor
open Go.RowKit
set_option linter.unusedVariables false
set_option linter.unusedSimpArgs false
theorem ev_put {H : Heap} {w : World} {b : Nat} {x y : HObj} {o o' : Obj} (hH : HOk w H) (hb : H b = some x) (ho : w.heap[b]? = some o) (hc : ∀ cs t fr, o ≠ .cells cs t fr) (hy : objAt (w.putObj b o') (H.upd b y) b y) : Ev H w (H.upd b y) (w.putObj b o') ∧ HOk (w.putObj b o') (H.upd b y) := by
  have hoth : ∀ c, c ≠ b → (w.putObj b o').heap[c]? = w.heap[c]? := fun c h => World.putObj_heap_other h
  have hev : Ev H w (H.upd b y) (w.putObj b o') := ev_block (by rw [hb]; simp) rfl rfl rfl World.putObj_size hoth fun cs t fr h => by
    rw [ho] at h
    injection h with h
    exact absurd h (hc cs t fr)
  exact ⟨hev, hok_block hH hev hoth hy⟩
theorem putObj_at {w : World} {b : Nat} {o o' : Obj} (ho : w.heap[b]? = some o) : (w.putObj b o').heap[b]? = some o' := World.putObj_heap_same (Array.getElem?_eq_some_iff.1 ho).1
def dfr : Obj := Obj.deferred (some [])
def mk : List Deferred → Heap → Prop
  | [], _ => True
  | d :: ds, H => ∃ D, d = { target := .collected D, args := #[] } ∧ H D = some (.obj dfr) ∧ mk ds (H.upd D .hid)
def offM : List Deferred → Heap → Heap
  | [], H => H
  | d :: ds, H => match d.target with
    | .collected D => offM ds (H.upd D .hid)
    | _ => offM ds H
theorem Match.redf {cx : Cx} {s : St} {a : Act} {w : World} (m : Match cx s a w) (ds : List Deferred) : Match cx { s with df := ds } { a with defers := ds } w := ⟨m.n, rfl, m.fr, m.H, m.ev⟩
theorem leavesM {cx : Cx} {fn : Func} {R : Ending → World → Prop} : ∀ (ds : List Deferred) (s : St) (a : Act) (w : World), Match cx s a w → mk ds s.H →
    (∀ a' w', a'.tmps = a.tmps → Match cx { s with H := offM ds s.H, df := [] } a' w' → ∃ v, (results fn a'.tmps).run cx.P w' = .ok v w' ∧ R (.returned v) w') → LeavesInM (FR none) 9 cx.P fn a.tmps R ds .returning w
  | [], s, a, w, m, _, h => by
    obtain ⟨v, h1, h2⟩ := h { a with defers := [] } w rfl (m.redf [])
    exact ⟨v, h1, h2⟩
  | d :: ds, s, a, w, m, hm, h => by
    obtain ⟨D, rfl, hD, hm⟩ := hm
    have hobj : w.heap[D]? = some dfr := m.H D _ hD
    obtain ⟨hev, hok⟩ := ev_put (o' := .deferred none) (y := .hid) m.H hD hobj (fun _ _ _ h => by cases h) (by
      show D < (w.putObj D (.deferred none)).heap.size
      rw [World.putObj_size]
      exact (Array.getElem?_eq_some_iff.1 hobj).1)
    refine ⟨by simp, .inl ⟨D, _, rfl, run_takeDeferred hobj, ?_⟩⟩
    exact leavesM ds (s.withH (s.H.upd D .hid)) a _ (m.go hev hok) hm h
theorem does_ofM {P : Program} {f : FuncId} {fn : Func} {c : Code} {ds : List D} {H : Heap} {K : D → Heap → Prop} (N : Nat) (rs : List ResultVar) (hf : P.funcs[f]? = some fn) (hname : (fn.name == "runtime.NumGoroutine") = false) (hb : fn.body = some c) (hN : fn.ntmps = N) (hrs : fn.results = rs.toArray) (hl : ds.length ≤ N)
    (h : ∀ w0 (g0 : GOk w0 H) (Q : Exit → St → Prop), (∀ e s, e = .normal ∨ e = .ret → mk s.df s.H → retV P { s with H := offM s.df s.H, df := [] } rs (fun d => ∃ H', H'.le (offM s.df s.H) ∧ K d H') → Q e s) → W ⟨P, none, N, H, w0, g0⟩ c Q (St.init ds H)) : Does P f ds H K := And.intro (ent_of hf hname hb) fun w vs hvs hH hG => by
  refine calls_of_FR (ro := none) (n := 9) (callsIn_of_wp_marks hf hb trivial ?_ rfl)
  have hlen := valsAll_length hvs
  have m : Match ⟨P, none, N, H, w, hG⟩ (St.init ds H) { tmps := vs.toArray ++ Array.replicate (fn.ntmps - vs.toArray.size) undef, defers := [] } w := by
    refine ⟨by simp; omega, rfl, fun t => ?_, hH, Ev.refl _ _⟩
    simp only [St.init]
    rcases Nat.lt_or_ge t ds.length with hlt | hge
    · obtain ⟨v, h1, h2⟩ := valsAll_get hvs t ds[t] (by simp [hlt])
      have e1 : ds.getD t (.val undef) = ds[t] := by simp [List.getD, hlt]
      have e2 : (vs.toArray ++ Array.replicate (fn.ntmps - vs.toArray.size) undef).getD t undef = v := by
        rw [Array.getD_eq_getD_getElem?, Array.getElem?_append_left (by simp; omega)]
        simp [h1]
      rw [e1, e2]; exact h2
    · have e1 : ds.getD t (.val undef) = .val undef := by simp [List.getD, hge]
      rw [e1]
      simp only [D.is]
      rw [Array.getD_eq_getD_getElem?, Array.getElem?_append_right (by simp; omega), Array.getElem?_replicate]
      split <;> rfl
  refine wpIn_mono (h w hG (fun e s => (e = .normal ∨ e = .ret) ∧ mk s.df s.H ∧ ResIs ⟨P, none, N, H, w, hG⟩ fn { s with H := offM s.df s.H, df := [] } K) (fun e s he hm hr => ⟨he, hm, ?_⟩) _ _ m) fun e a' w' ⟨s', m', q⟩ => ?_
  · have hq : endQ ⟨P, none, N, H, w, hG⟩ fn K .normal { s with H := offM s.df s.H, df := [] } := endQ_ret (.inl rfl) rfl (by rw [hrs]; simpa using hr)
    exact hq.2
  · obtain ⟨he, hm, hres⟩ := q
    have key : LeavesInM (FR none) 9 P fn a'.tmps (fun e w' => ∃ v d H', e = .returned v ∧ D.is w' H'.others d v ∧ HOk w' H' ∧ Ev H w H' w' ∧ K d H') a'.defers .returning w' := by
      rw [m'.df]
      refine leavesM s'.df s' a' w' m' hm fun a2 w2 ht m2 => ?_
      obtain ⟨v, d, H', h1, h2, h3, h4⟩ := hres a2 w2 m2
      have m3 := m2.less h3
      exact ⟨v, h1, v, d, H', rfl, h2, m3.H, m3.ev, h4⟩
    rcases he with rfl | rfl
    · exact key
    · exact key
theorem wpIn_depth {ro : Option Nat} {n : Nat} (m : Nat) {P : Program} {c : Code} {Q : Exit → Act → World → Prop} {a : Act} {w : World} (h : c.wpIn (FR ro) m P Q a w) : c.wpIn (FR ro) n P Q a w :=
  fun b k cs h1 h2 _ => h b k cs h1 h2 (fun _ h => by simp [FR, Fence.wide] at h)
def yD (l : Nat) : D := .val (.func (.yield l) #[] #[])
def YC {α : Type} (P : Program) (l : Nat) (H0 : Heap) (w0 : World) (J Jx : List α → Heap → Prop) (encs : α → List D) (xs : List α) : Prop :=
  ∀ (pre : List α) (x : α) (Hc : Heap) (w : World) (vs : List Value), (pre ++ [x]) <+: xs → J pre Hc → HOk w Hc → Ev H0 w0 Hc w → valsAll w Hc.others (encs x) vs →
    YieldAt (FR none) 8 P l vs.toArray w fun e w' => ∃ Hc', HOk w' Hc' ∧ Ev Hc w Hc' w' ∧ (∀ b o, H0 b = none → Hc b = some (.obj o) → Hc' b = some (.obj o)) ∧ ((e = .returned (.bool true) ∧ J (pre ++ [x]) Hc') ∨ (e = .returned (.bool false) ∧ Jx (pre ++ [x]) Hc'))
def Clos {α : Type} (H0 : Heap) (J : List α → Heap → Prop) : Prop := ∀ pre H b o, H0 b = none → (∀ z, H b = some z → ∃ o', z = .obj o') → J pre H → J pre (H.upd b (.obj o))
def Iter {α : Type} (P : Program) (gf : FuncId) (caps : List D) (encs : α → List D) (xs : List α) (ok : Heap → Prop) : Prop :=
  Entr P gf ∧ ∀ (l : Nat) (J Jx : List α → Heap → Prop) (H : Heap) (w0 : World) (vs : List Value), ok H → HOk w0 H → GOk w0 H → J [] H → Clos H J → Clos H Jx → YC P l H w0 J Jx encs xs → valsAll w0 H.others (yD l :: caps) vs →
    Calls P gf vs.toArray w0 fun e w' => ∃ v H', e = .returned v ∧ HOk w' H' ∧ Ev H w0 H' w' ∧ (J xs H' ∨ ∃ pre, Jx pre H')
theorem WO_yield {α : Type} {cx : Cx} {o : Oper} {K : St → Prop} {s : St} {c : Call} {f : Operand} {l : Nat} {J Jx : List α → Heap → Prop} {encs : α → List D} {xs : List α} (pre : List α) (x : α)
    (hop : o.op = .call c) (hcal : c.callee = .value f) (hf : s.ev f = yD l) (hd : okd cx.n o.dst) (hY : YC cx.P l cx.H0 cx.w0 J Jx encs xs) (hx : (pre ++ [x]) <+: xs) (hJ : J pre s.H) (ha : s.evs c.args = encs x)
    (ht : ∀ H', J (pre ++ [x]) H' → K ((s.withH H').put o.dst (.val (.bool true)))) (hn : ∀ H', Jx (pre ++ [x]) H' → K ((s.withH H').put o.dst (.val (.bool false)))) : WO cx o K s := fun a w m => by
  refine ⟨about_FR, ?_⟩
  rw [sem_FR (by simp [hop])]
  have hfv := m.ev_ f
  rw [hf] at hfv
  simp only [yD, D.is] at hfv
  have hargs := m.evs_ c.args
  rw [ha] at hargs
  obtain ⟨fn, tmps, assign, body, hy, hR⟩ := hY pre x s.H w _ hx hJ m.H m.ev hargs
  have hrun : (execOp a.eval o).run cx.P w = .ok (.round l fn tmps assign body) w := by
    simp only [execOp, hop, resolve, hcal, hfv, Deferred.ofValue, Sem.run_bind, Sem.run_pure, Result.andThen, invoke]
    have e : (c.args.map a.eval).toList.toArray = c.args.map a.eval := Array.toArray_toList
    rw [e] at hy
    simpa using hy
  rw [hrun, Oper.uponIn_round]
  refine ⟨fun hd0 => (by cases hd0), ?_⟩
  have hR2 : RoundIn (FR cx.ro) 8 cx.P l fn tmps assign body w _ := hR
  refine hR2.mono fun e w' ⟨H', h1, h2, _, h3⟩ => ?_
  rcases h3 with ⟨rfl, h3⟩ | ⟨rfl, h3⟩
  · exact ⟨_, (m.go h2 h1).put (okd_spec hd) (by simp only [D.is]), ht H' h3⟩
  · exact ⟨_, (m.go h2 h1).put (okd_spec hd) (by simp only [D.is]), hn H' h3⟩
def objs (H H' : Heap) : Prop := ∀ b o, H b = some (.obj o) → H' b = some (.obj o)
def rle (H H' : Heap) : Prop := ∀ b x, H b = some x → (∀ o, x ≠ .obj o) → H' b = some x
theorem objs_refl (H : Heap) : objs H H := fun _ _ h => h
theorem objs.trans {H H' H'' : Heap} (h : objs H H') (h' : objs H' H'') : objs H H'' := fun b o e => h' b o (h b o e)
theorem objs.new {H H' : Heap} {b : Nat} {x : HObj} (h : objs H H') (hb : H' b = none) : objs H (H'.upd b x) := fun c o e => by
  have := h c o e
  rw [Heap.upd_ne (fun hc => by rw [hc, hb] at this; cases this)]; exact this
theorem objs.row {H H' : Heap} {b : Nat} {x y : HObj} (h : objs H H') (hb : H' b = some y) (hy : ∀ o, y ≠ .obj o) : objs H (H'.upd b x) := fun c o e => by
  have h2 := h c o e
  rw [Heap.upd_ne (fun hc => by rw [hc, hb] at h2; injection h2 with h2; exact hy o h2)]; exact h2
theorem objs.del {H H' : Heap} {b : Nat} {y : HObj} (h : objs H H') (hb : H' b = some y) (hy : ∀ o, y ≠ .obj o) : objs H (H'.del b) := fun c o e => by
  have h2 := h c o e
  rw [Heap.del_ne (fun hc => by rw [hc, hb] at h2; injection h2 with h2; exact hy o h2)]; exact h2
theorem rle_new {H : Heap} {b : Nat} {x : HObj} (hb : H b = none) : rle H (H.upd b x) := fun c y e _ => by
  rw [Heap.upd_ne (fun hc => by rw [hc, hb] at e; cases e)]; exact e
theorem rle_obj {H : Heap} {b : Nat} {o : Obj} {x : HObj} (hb : H b = some (.obj o)) : rle H (H.upd b x) := fun c y e hy => by
  rw [Heap.upd_ne (fun hc => by rw [hc, hb] at e; injection e with e; exact hy o e.symm)]; exact e
theorem rle.trans {H H' H'' : Heap} (h : rle H H') (h' : rle H' H'') : rle H H'' := fun b x e hx => h' b x (h b x e hx) hx
theorem rle_clos {H : Heap} {b : Nat} {x : HObj} (hz : ∀ z, H b = some z → ∃ o, z = .obj o) : rle H (H.upd b x) := by
  cases e : H b with
  | none => exact rle_new e
  | some z => obtain ⟨o, rfl⟩ := hz z e; exact rle_obj e
theorem rle_le {H H' : Heap} (h : H.le H') : rle H H' := fun b x e _ => h b x e
def rst (s : St) (ps : List Nat) (ds : List D) (H : Heap) : St := ⟨(ps.zip ds).foldl (fun f p => fun x => if x = p.1 then p.2 else f x) s.fr, H, []⟩
theorem fold_match {w : World} {S : Nat → Prop} {n : Nat} : ∀ (ps : List Nat) (ds : List D) (vs : List Value) (f : Nat → D) (t : Array Value), valsAll w S ds vs → (∀ p ∈ ps, p < n) → t.size = n → (∀ x, D.is w S (f x) (t.getD x undef)) →
    (((ps.zip vs).foldl (fun t p => t.setIfInBounds p.1 p.2) t).size = n ∧ ∀ x, D.is w S ((ps.zip ds).foldl (fun f p => fun x => if x = p.1 then p.2 else f x) f x) (((ps.zip vs).foldl (fun t p => t.setIfInBounds p.1 p.2) t).getD x undef))
  | [], ds, vs, f, t, _, _, hn, hf => by
    simp only [List.zip_nil_left, List.foldl_nil]
    exact ⟨hn, hf⟩
  | p :: ps, [], vs, f, t, hv, _, hn, hf => by
    simp only [valsAll] at hv
    subst hv
    simp only [List.zip_nil_right, List.foldl_nil]
    exact ⟨hn, hf⟩
  | p :: ps, d :: ds, vs, f, t, hv, hp, hn, hf => by
    simp only [valsAll] at hv
    obtain ⟨u, us, rfl, h1, h2⟩ := hv
    simp only [List.zip_cons_cons, List.foldl_cons]
    refine fold_match ps ds us _ _ h2 (fun q hq => hp q (List.mem_cons_of_mem _ hq)) (by simpa using hn) fun x => ?_
    have hlt : p < t.size := by rw [hn]; exact hp p List.mem_cons_self
    rw [getD_set _ _ _ _ _ hlt]
    by_cases hx : x = p
    · rw [if_pos hx, if_pos hx]; exact h1
    · rw [if_neg hx, if_neg hx]; exact hf x
def roundQ {α : Type} (I : List α → Heap → Prop) (Ix : Exit → List α → Heap → Prop) (ys : List α) (Hb : Heap) : Exit → St → Prop
  | .normal, s => s.df = [] ∧ objs Hb s.H ∧ I ys s.H
  | .ret, s => s.df = [] ∧ objs Hb s.H ∧ Ix .ret ys s.H
  | .exit id, s => s.df = [] ∧ objs Hb s.H ∧ Ix (.exit id) ys s.H
  | .goto t, s => s.df = [] ∧ objs Hb s.H ∧ Ix (.goto t) ys s.H
  | _, _ => False
def jumpOf : Exit → Option Code
  | .ret => some .ret
  | .exit id => some (.exit id)
  | .goto t => some (.goto t)
  | _ => none
def colD (D : Nat) : Deferred := { target := .collected D, args := #[] }
set_option maxHeartbeats 1000000 in
theorem W_rangeFunc {α : Type} {cx : Cx} {s : St} {g : Operand} {ps : List Nat} {assign body : Code} {Q : Exit → St → Prop} (hro : cx.ro = none) {gf : FuncId} {caps : List D} {encs : α → List D} {xs : List α} {ok : Heap → Prop}
    (it : Iter cx.P gf caps encs xs ok) (hg : s.ev g = .fn gf caps) (hok : ∀ H', s.H.le H' → ok H') (hps : ∀ p ∈ ps, p < cx.n) (henc : ∀ x, (encs x).length = ps.length)
    (I : List α → Heap → Prop) (Ix : Exit → List α → Heap → Prop) (hI : ∀ pre H H', rle H H' → I pre H → I pre H') (hIx : ∀ e pre H H', rle H H' → Ix e pre H → Ix e pre H') (h0 : I [] s.H)
    (hround : ∀ (l : Nat) (w1 : World) (pre : List α) (x : α) (Hc : Heap) (o : Obj) (g1 : GOk w1 Hc), (pre ++ [x]) <+: xs → I pre Hc → objs s.H Hc → Hc l = some (.obj o) → W ⟨cx.P, some l, cx.n, Hc, w1, g1⟩ assign (thenQ (fun s1 => s1.df = [] ∧ objs Hc s1.H ∧ ∀ w2 y (g2 : GOk w2 (s1.H.upd l (.obj y))), W ⟨cx.P, some l, cx.n, s1.H.upd l (.obj y), w2, g2⟩ body (roundQ I Ix (pre ++ [x]) (s1.H.upd l (.obj y))) (s1.withH (s1.H.upd l (.obj y)))) (fun _ _ => False)) (rst s ps (encs x) Hc))
    (hdone : ∀ (Hc : Heap) (D : Nat), I xs Hc → objs s.H Hc → Hc D = some (.obj dfr) → s.H D = none → Q .normal { s with H := Hc, df := colD D :: s.df })
    (hstop : ∀ (e : Exit) (c : Code) (pre : List α) (Hc : Heap) (D : Nat), jumpOf e = some c → Ix e pre Hc → objs s.H Hc → Hc D = some (.obj dfr) → s.H D = none → Q e { s with H := Hc, df := colD D :: s.df }) :
    W cx (.rangeFunc g ⟨ps⟩ assign body) Q s := fun a w m => by
  rw [hro]
  refine wpIn_rangeFunc ?_
  intro fn hfn
  have hgv := m.ev_ g
  rw [hg] at hgv
  simp only [D.is] at hgv
  obtain ⟨lb, hgv, hcaps⟩ := hgv
  obtain ⟨rec, hrec⟩ : ∃ rec : LoopState → Option Code → Loop, rec = fun st pe => { state := st, pending := pe, fn, tmps := a.tmps, params := ⟨ps⟩, assign, body, defers := w.heap.size } := ⟨_, rfl⟩
  obtain ⟨W1, hW1⟩ : ∃ W1, (w.alloc (.deferred (some []))).alloc (.loop (rec .ready none)) = W1 := ⟨_, rfl⟩
  obtain ⟨l, hl⟩ : ∃ l, l = w.heap.size + 1 := ⟨_, rfl⟩
  have hsz1 : (w.alloc (.deferred (some []))).heap.size = l := by rw [hl]; exact World.size_alloc _ _
  have hDn := fresh_none m.H
  have hln : s.H l = none := by
    cases e : s.H l with
    | none => rfl
    | some x => exact absurd (m.H.lt e) (by omega)
  have hok1 : HOk (w.alloc (.deferred (some []))) (s.H.upd w.heap.size (.obj dfr)) := m.H.alloc (heap_alloc_new w _)
  have hev1 := ev_alloc (.deferred (some [])) (.obj dfr) m.H
  have hok2 : HOk W1 ((s.H.upd w.heap.size (.obj dfr)).upd l (.obj (.loop (rec .ready none)))) := by
    rw [← hW1, ← hsz1]
    exact hok1.alloc (heap_alloc_new (w.alloc (.deferred (some []))) _)
  have hev2 : Ev (s.H.upd w.heap.size (.obj dfr)) (w.alloc (.deferred (some []))) ((s.H.upd w.heap.size (.obj dfr)).upd l (.obj (.loop (rec .ready none)))) W1 := by
    rw [← hW1, ← hsz1]
    exact ev_alloc _ _ hok1
  obtain ⟨Hc0, hHc0⟩ : ∃ H, H = (s.H.upd w.heap.size (.obj dfr)).upd l (.obj (.loop (rec .ready none))) := ⟨_, rfl⟩
  rw [← hHc0] at hok2 hev2
  have hev0 : Ev s.H w Hc0 W1 := hev1.trans hev2
  have hDl : w.heap.size ≠ l := by omega
  have hle0 : s.H.le Hc0 := by
    rw [hHc0]
    exact Heap.le_new (Heap.le_new (Heap.le_refl _) hDn) (by rw [Heap.upd_ne (Ne.symm hDl)]; exact hln)
  have hD0 : Hc0 w.heap.size = some (.obj dfr) := by rw [hHc0, Heap.upd_ne hDl, Heap.upd_same]
  have hl0 : Hc0 l = some (.obj (.loop (rec .ready none))) := by rw [hHc0, Heap.upd_same]
  refine ⟨l, [colD w.heap.size], W1, { target := .fn (.func gf) ⟨lb⟩, args := #[.func (.yield l) #[] #[]] }, W1, gf, #[.func (.yield l) #[] #[]] ++ ⟨lb⟩, W1, ?_, ?_, ?_, ?_, fun h => (by cases h), ?_⟩
  · rw [← hW1, hrec, hl]; exact run_enterLoop_outer _ _ _ _ _
  · simp only [resolve, hgv]
    simp [go_sem]
  · intro f' hf'; trivial
  · have eg : ∀ args w, (callFunc gf args).run cx.P w = .ok (.enter gf args) w := it.1
    simp [invoke, go_sem, eg]
  · have hcall := it.2 l (fun pre Hc => I pre Hc ∧ objs s.H Hc ∧ Hc w.heap.size = some (.obj dfr) ∧ Hc l = some (.obj (.loop (rec .ready none))))
      (fun pre Hc => ∃ e c, jumpOf e = some c ∧ Ix e pre Hc ∧ objs s.H Hc ∧ Hc w.heap.size = some (.obj dfr) ∧ Hc l = some (.obj (.loop (rec .done (some c))))) Hc0 W1 (.func (.yield l) #[] #[] :: lb) (hok _ hle0) hok2 (m.gok.ev hev0)
      ⟨hI _ _ _ (rle_le hle0) h0, fun b o h => hle0 _ _ h, hD0, hl0⟩
      (fun pre H b o hb hz ⟨h1, h2, h3, h4⟩ => ⟨hI _ _ _ (rle_clos hz) h1, fun c o' h => by
        rw [Heap.upd_ne (fun hc => by rw [hc] at h; have := hle0 _ _ h; rw [hb] at this; cases this)]; exact h2 c o' h, by
        rw [Heap.upd_ne (fun hc => by rw [← hc, hD0] at hb; cases hb)]; exact h3, by
        rw [Heap.upd_ne (fun hc => by rw [← hc, hl0] at hb; cases hb)]; exact h4⟩)
      (fun pre H b o hb hz ⟨e, c0, hj, h1, h2, h3, h4⟩ => ⟨e, c0, hj, hIx _ _ _ _ (rle_clos hz) h1, fun c o' h => by
        rw [Heap.upd_ne (fun hc => by rw [hc] at h; have := hle0 _ _ h; rw [hb] at this; cases this)]; exact h2 c o' h, by
        rw [Heap.upd_ne (fun hc => by rw [← hc, hD0] at hb; cases hb)]; exact h3, by
        rw [Heap.upd_ne (fun hc => by rw [← hc, hl0] at hb; cases hb)]; exact h4⟩) ?_ (by
        simp only [valsAll]
        exact ⟨_, _, rfl, by simp only [yD, D.is], valsAll_keep hev0.kept _ hcaps⟩)
    · have e1 : #[Value.func (.yield l) #[] #[]] ++ (⟨lb⟩ : Array Value) = (Value.func (.yield l) #[] #[] :: lb).toArray := by simp
      rw [e1]
      refine (callsIn_FR (ro := none) (n := 8) hcall).mono ?_
      rintro e w3 ⟨v, H3, rfl, hok3, hev3, hj⟩
      have fin : ∀ (st : LoopState) (pe : Option Code), st ≠ .busy → H3 l = some (.obj (.loop (rec st pe))) → objs s.H H3 → H3 w.heap.size = some (.obj dfr) →
          ∃ w4, (Instr.endLoop l).run cx.P w3 = .ok pe w4 ∧ Match cx { s with H := H3.upd l .hid, df := colD w.heap.size :: s.df } { a with defers := [colD w.heap.size] ++ a.defers } w4 ∧ rle H3 (H3.upd l .hid) ∧ objs s.H (H3.upd l .hid) ∧ (H3.upd l .hid) w.heap.size = some (.obj dfr) := by
        intro st pe hst hl3 hob hD3
        have hobj : w3.heap[l]? = some (.loop (rec st pe)) := hok3 l _ hl3
        have hend := run_endLoop (P := cx.P) hobj (by rw [hrec]; exact hst)
        obtain ⟨hev4, hok4⟩ := ev_put (o' := .loop { rec st pe with state := .exhausted }) (y := .hid) hok3 hl3 hobj (fun _ _ _ h => by cases h) (by
          show l < (w3.putObj l _).heap.size
          rw [World.putObj_size]
          exact (Array.getElem?_eq_some_iff.1 hobj).1)
        refine ⟨w3.putObj l (.loop { rec st pe with state := .exhausted }), by rw [hrec] at hend ⊢; exact hend, ?_, rle_obj hl3, fun b o h => ?_, by rw [Heap.upd_ne hDl]; exact hD3⟩
        · have m4 := m.go ((hev0.trans hev3).trans hev4) hok4
          exact ⟨m4.n, by simp only [List.singleton_append, m.df], m4.fr, m4.H, m4.ev⟩
        · have := hob b o h
          rw [Heap.upd_ne (fun hb => by rw [hb, hln] at h; cases h)]
          exact this
      rcases hj with ⟨hi, hob, hD3, hl3⟩ | ⟨pre, e, c, hjc, hi, hob, hD3, hl3⟩
      · obtain ⟨w4, h4, m4, hr4, hob4, hD4⟩ := fin _ _ (by simp) hl3 hob hD3
        exact ⟨none, w4, h4, _, m4, hdone _ _ (hI _ _ _ hr4 hi) hob4 hD4 hDn⟩
      · obtain ⟨w4, h4, m4, hr4, hob4, hD4⟩ := fin _ _ (by simp) hl3 hob hD3
        have hq := hstop e c pre _ _ hjc (hIx _ _ _ _ hr4 hi) hob4 hD4 hDn
        refine ⟨some c, w4, h4, ?_⟩
        cases e <;> simp only [jumpOf] at hjc <;> first
          | (cases hjc; done)
          | (injection hjc with hjc
             subst hjc
             first
               | exact wpIn_exit ⟨_, m4, hq⟩
               | exact wpIn_goto ⟨_, m4, hq⟩
               | exact wpIn_ret ⟨_, m4, hq⟩)
    ·
      rintro pre x Hc w5 vs hpre ⟨hi, hob, hD5, hl5⟩ hok5 hev5 hvs
      have hobj : w5.heap[l]? = some (.loop (rec .ready none)) := hok5 l _ hl5
      have hlen := valsAll_length hvs
      have hy := run_yield (P := cx.P) (args := vs.toArray) hobj (by rw [hrec]; simp [hlen, henc])
      rw [hrec] at hy
      refine ⟨fn, _, assign, body, hy, roundIn_of_wpIn hfn ?_⟩
      have hfr : ∀ t, D.is w5 Hc.others (s.fr t) (a.tmps.getD t undef) := fun t => D.is_keep (hev0.trans hev5).kept _ (m.fr t)
      obtain ⟨g1, g2⟩ := fold_match ps (encs x) vs s.fr a.tmps hvs hps m.n hfr
      have htm : ((⟨ps⟩ : Array Nat).zip vs.toArray).foldl (fun t (p : Nat × Value) => t.setIfInBounds p.1 p.2) a.tmps = (ps.zip vs).foldl (fun t p => t.setIfInBounds p.1 p.2) a.tmps := by
        rw [← Array.foldl_toList, Array.toList_zip]
      have g5 : GOk w5 Hc := (m.gok.ev hev0).ev hev5
      have m5 : Match ⟨cx.P, some l, cx.n, Hc, w5, g5⟩ (rst s ps (encs x) Hc) { tmps := ((⟨ps⟩ : Array Nat).zip vs.toArray).foldl (fun t (p : Nat × Value) => t.setIfInBounds p.1 p.2) a.tmps, defers := [] } w5 := by
        rw [htm]
        exact ⟨g1, rfl, g2, hok5, Ev.refl _ _⟩
      have hW := hround l w5 pre x Hc _ g5 hpre hi hob hl5 _ _ m5
      refine wpIn_mono (wpIn_depth 9 hW) ?_
      rintro e1 a1 w6 ⟨s1, m1, q1⟩
      cases e1 <;> first
        | exact q1.elim
        | skip
      obtain ⟨hdf1, hob1, hbody⟩ := q1
      have hl1 : s1.H l = some (.obj (.loop (rec .ready none))) := hob1 _ _ hl5
      have hobj1 : w6.heap[l]? = some (.loop (rec .ready none)) := m1.H l _ hl1
      obtain ⟨y1, hy1⟩ : ∃ y, y = Obj.loop { rec .ready none with state := .busy } := ⟨_, rfl⟩
      obtain ⟨hev6, hok6⟩ := ev_put (o' := y1) (y := .obj y1) m1.H hl1 hobj1 (fun _ _ _ h => by cases h) (putObj_at hobj1)
      refine ⟨w6.putObj l y1, by rw [hy1]; exact run_beginRound hobj1 (by rw [hrec]), ?_⟩
      have g6 : GOk (w6.putObj l y1) (s1.H.upd l (.obj y1)) := m1.gok.ev hev6
      have m6 : Match ⟨cx.P, some l, cx.n, s1.H.upd l (.obj y1), w6.putObj l y1, g6⟩ (s1.withH (s1.H.upd l (.obj y1))) a1 (w6.putObj l y1) := by
        have := m1.go hev6 hok6
        exact ⟨this.n, this.df, this.fr, this.H, Ev.refl _ _⟩
      refine wpIn_mono (wpIn_depth 9 (hbody (w6.putObj l y1) y1 g6 _ _ m6)) ?_
      rintro e2 a2 w7 ⟨s2, m2, q2⟩
      have key : ∀ (jump : Option Code), objs (s1.H.upd l (.obj y1)) s2.H → ∃ v w', (Instr.endRound l jump).run cx.P w7 = .ok v w' ∧ v = .bool jump.isNone ∧
          ∃ Hc', HOk w' Hc' ∧ Ev Hc w5 Hc' w' ∧ (∀ b o, Hc0 b = none → Hc b = some (.obj o) → Hc' b = some (.obj o)) ∧ rle s2.H Hc' ∧ objs s.H Hc' ∧ Hc' w.heap.size = some (.obj dfr) ∧ Hc' l = some (.obj (.loop (rec (if jump.isNone then .ready else .done) jump))) := by
        intro jump hob2
        have hl2 : s2.H l = some (.obj y1) := hob2 _ _ (Heap.upd_same _ _ _)
        have hobj2 : w7.heap[l]? = some y1 := m2.H l _ hl2
        rw [hy1] at hobj2
        have hend := run_endRound (P := cx.P) jump hobj2
        obtain ⟨hev7, hok7⟩ := ev_put (o' := Obj.loop (rec (if jump.isNone then .ready else .done) jump)) (y := .obj (Obj.loop (rec (if jump.isNone then .ready else .done) jump))) m2.H hl2 hobj2 (fun _ _ _ h => by cases h) (putObj_at hobj2)
        have hob3 : objs s.H (s2.H.upd l (.obj (Obj.loop (rec (if jump.isNone then .ready else .done) jump)))) := fun b o h => by
          have hbl : b ≠ l := fun hb => by rw [hb, hln] at h; cases h
          rw [Heap.upd_ne hbl]
          refine hob2 b o ?_
          rw [Heap.upd_ne hbl]
          exact hob1 b o (hob b o h)
        refine ⟨_, _, by rw [hrec] at hend ⊢; exact hend, rfl, _, hok7, ((m1.ev.trans hev6).trans m2.ev).trans hev7, fun b o hb0 hb1 => by
          have hbl : b ≠ l := fun hb => by rw [hb, hl0] at hb0; cases hb0
          rw [Heap.upd_ne hbl]
          refine hob2 b o ?_
          rw [Heap.upd_ne hbl]
          exact hob1 b o hb1, rle_obj hl2, hob3, ?_, Heap.upd_same _ _ _⟩
        rw [Heap.upd_ne hDl]
        refine hob2 _ _ ?_
        rw [Heap.upd_ne hDl]
        exact hob1 _ _ hD5
      cases e2 with
      | normal =>
        obtain ⟨_, hob2, hi2⟩ := q2
        obtain ⟨v, w', h1, rfl, Hc', h2, h3, h8, h4, h5, h6, h7⟩ := key none hob2
        exact ⟨_, w', h1, Hc', h2, h3, h8, .inl ⟨rfl, hI _ _ _ h4 hi2, h5, h6, h7⟩⟩
      | ret =>
        obtain ⟨_, hob2, hi2⟩ := q2
        obtain ⟨v, w', h1, rfl, Hc', h2, h3, h8, h4, h5, h6, h7⟩ := key (some .ret) hob2
        exact ⟨_, w', h1, Hc', h2, h3, h8, .inr ⟨rfl, .ret, _, rfl, hIx _ _ _ _ h4 hi2, h5, h6, h7⟩⟩
      | exit id =>
        obtain ⟨_, hob2, hi2⟩ := q2
        obtain ⟨v, w', h1, rfl, Hc', h2, h3, h8, h4, h5, h6, h7⟩ := key (some (.exit id)) hob2
        exact ⟨_, w', h1, Hc', h2, h3, h8, .inr ⟨rfl, .exit id, _, rfl, hIx _ _ _ _ h4 hi2, h5, h6, h7⟩⟩
      | goto t =>
        obtain ⟨_, hob2, hi2⟩ := q2
        obtain ⟨v, w', h1, rfl, Hc', h2, h3, h8, h4, h5, h6, h7⟩ := key (some (.goto t)) hob2
        exact ⟨_, w', h1, Hc', h2, h3, h8, .inr ⟨rfl, .goto t, _, rfl, hIx _ _ _ _ h4 hi2, h5, h6, h7⟩⟩
      | panic ch => exact q2.elim
      | outgrown => exact q2.elim
end Go.Proofs.YtgfhgeelfaalmaaGreatDoor
namespace Go.Proofs.YtgfhgeelfaalmaaGreatDoor
open Go.RowKit
set_option linter.unusedVariables false
set_option linter.unusedSimpArgs false
theorem Does.post {P : Program} {f : FuncId} {ds : List D} {H : Heap} {K K0 : D → Heap → Prop} (h : Does P f ds H K)
    (hk : ∀ d H', K d H' → ∃ d0 H0, H0.le H' ∧ (∀ w v, HOk w H' → D.is w H'.others d v → D.is w H0.others d0 v) ∧ K0 d0 H0) : Does P f ds H K0 :=
  And.intro h.1 fun w vs hvs hH hG => (h.2 w vs hvs hH hG).mono fun e w' ⟨v, d, H', he, hd, hH', hev, hk0⟩ => by
    obtain ⟨d0, H0, h1, h2, h3⟩ := hk d H' hk0
    exact ⟨v, d0, H0, he, h2 w' v hH' hd, hH'.less h1, hev.less h1, h3⟩
theorem row_seq {w : World} {H : Heap} {b o sz : Nat} {ty : TypeId} {els : List (List D)} (hb : H b = none) {v : Value} (hH : HOk w (H.upd b (.row ty o sz els))) (h : D.is w (H.upd b (.row ty o sz els)).others (.os b o sz 0 els.length) v) : D.is w H.others (.seq sz els) v := by
  have := frz_is hH (Heap.upd_same _ _ _) (by omega) h
  rwa [Heap.del_upd_same, Heap.del_none hb, List.drop_zero, List.take_length] at this
def SeqRes (sz : Nat) (els : List (List D)) (d : D) (H1 H' : Heap) : Prop :=
  (d = .val (.slice none 0 0) ∧ els = [] ∧ H' = H1) ∨ (d = .emp ∧ els = [] ∧ H' = H1) ∨ (∃ b o ty, H1 b = none ∧ d = .os b o sz 0 els.length ∧ H' = H1.upd b (.row ty o sz els)) ∨ (d = .seq sz els ∧ H' = H1)
def Gl (H0 : Heap) (e : TypeId) (sz : Nat) (els : List (List D)) (d : D) (H : Heap) (ob : Option Nat) : Prop :=
  (ob = none ∧ d = .val (.slice none 0 0) ∧ els = []) ∨ ∃ c o, ob = some c ∧ d = .os c o sz 0 els.length ∧ H0 c = none ∧ H c = some (.row e o sz els)
theorem Gl.nil (H0 : Heap) (e : TypeId) (sz : Nat) (H : Heap) : Gl H0 e sz [] (.val (.slice none 0 0)) H none := .inl ⟨rfl, rfl, rfl⟩
theorem Gl.keep {H0 : Heap} {e : TypeId} {sz : Nat} {els : List (List D)} {d : D} {H H' : Heap} {ob : Option Nat} (h : Gl H0 e sz els d H ob) (hk : ∀ c, ob = some c → H' c = H c) : Gl H0 e sz els d H' ob := by
  rcases h with h | ⟨c, o, h1, h2, h3, h4⟩
  · exact .inl h
  · exact .inr ⟨c, o, h1, h2, h3, (hk c h1).trans h4⟩
theorem Gl.fin {H0 : Heap} {e : TypeId} {sz : Nat} {els : List (List D)} {d : D} {H : Heap} {ob : Option Nat} (h : Gl H0 e sz els d H ob) (hle : H0.le H) : ∃ H', H'.le H ∧ SeqRes sz els d H0 H' := by
  rcases h with ⟨_, rfl, rfl⟩ | ⟨c, o, _, rfl, h3, h4⟩
  · exact ⟨H0, hle, .inl ⟨rfl, rfl, rfl⟩⟩
  · refine ⟨H0.upd c (.row e o sz els), fun b x hb => ?_, .inr (.inr (.inl ⟨c, o, e, h3, rfl, rfl⟩))⟩
    by_cases hc : b = c
    · subst hc; rw [Heap.upd_same] at hb; rw [h4]; exact hb
    · rw [Heap.upd_ne hc] at hb; exact hle _ _ hb
theorem Gl.cells {H0 : Heap} {e : TypeId} {sz : Nat} {els : List (List D)} {d : D} {H : Heap} {ob : Option Nat} (h : Gl H0 e sz els d H ob) : D.cells d = some [d] := by
  rcases h with ⟨_, rfl, _⟩ | ⟨c, o, _, rfl, _⟩ <;> rfl
theorem apV_grow {P : Program} {H0 H : Heap} {t xt e : TypeId} {td xd : Ti} {sz by_ : Nat} {zs : List Value} {ed : TD} {els new : List (List D)} {x y : D} {K : D → Heap → Prop} {ob : Option Nat}
    (h1 : tyi P t = some td) (h1' : td.d = .slice e) (h2 : tyi P xt = some xd) (h2' : xd.d.notInt = true) (h3 : tyi P e = some ⟨ed, sz, by_, some zs⟩) (hzs : zs.length = sz) (hby : by_ ≠ 0)
    (hle : H0.le H) (hs : Gl H0 e sz els x H ob) (hy : newsP H sz y (· = new)) (hb : (els.length + new.length) * by_ ≤ 140737488355328)
    (hk : ∀ d H' ob', Gl H0 e sz (els ++ new) d H' ob' → H0.le H' → (∀ b z, H b = some z → ob ≠ some b → H' b = some z ∧ ob' ≠ some b) → K d H') : apV P H t xt x y K := by
  have hs' : ∃ H1, Sl e sz els x H1 H ∧ H0.le H1 ∧ ∀ b z, H b = some z → ob ≠ some b → H1 b = some z := by
    rcases hs with ⟨rfl, rfl, rfl⟩ | ⟨c, o, rfl, rfl, hc0, hc⟩
    · exact ⟨H, .inl ⟨rfl, rfl, rfl⟩, hle, fun b z hb _ => hb⟩
    · refine ⟨H.del c, .inr ⟨c, o, rfl, Heap.del_same _ _, ?_⟩, Heap.le_del hle hc0, fun b z hb hne => by rw [Heap.del_ne (fun e => hne (by rw [e]))]; exact hb⟩
      rw [Heap.del_upd]
      funext b
      by_cases e : b = c
      · subst e; rw [Heap.upd_same, hc]
      · rw [Heap.upd_ne e]
  obtain ⟨H1, hsl, hle1, hp⟩ := hs'
  refine Sl.apV h1 h1' h2 h2' h3 hzs hby hsl hy hb fun d H' hs2 => ?_
  rcases hs2 with ⟨rfl, h5, rfl⟩ | ⟨c', o', rfl, hc', rfl⟩
  · exact hk _ _ none (.inl ⟨rfl, rfl, h5⟩) hle1 fun b z hb hne => ⟨hp b z hb hne, by simp⟩
  · have h0 : H0 c' = none := by
      cases hx : H0 c' with
      | none => rfl
      | some x => have := hle1 _ _ hx; rw [hc'] at this; cases this
    refine hk _ _ (some c') (.inr ⟨c', o', rfl, rfl, h0, Heap.upd_same _ _ _⟩) (Heap.le_new hle1 hc') fun b z hb hne => ?_
    have h6 := hp b z hb hne
    have h7 : b ≠ c' := fun e => by rw [e, hc'] at h6; cases h6
    exact ⟨by rw [Heap.upd_ne h7]; exact h6, fun e => h7 (by injection e with e; exact e.symm)⟩
theorem W_gen {cx : Cx} {c : Code} {Q : Exit → St → Prop} {s : St} (M : St → Prop) (h1 : M s) (h2 : ∀ s, M s → W cx c Q s) : W cx c Q s := h2 s h1
def St.wdf (s : St) (ds : List Deferred) : St := { s with df := ds }
theorem wdf_fr (s : St) (ds : List Deferred) : (s.wdf ds).fr = s.fr := rfl
theorem wdf_H (s : St) (ds : List Deferred) : (s.wdf ds).H = s.H := rfl
theorem wdf_df (s : St) (ds : List Deferred) : (s.wdf ds).df = ds := rfl
theorem wdf_withH (s : St) (ds : List Deferred) (H : Heap) : (s.wdf ds).withH H = (s.withH H).wdf ds := rfl
theorem rst2 (s : St) (p q : Nat) (d e : D) (H : Heap) : rst s [p, q] [d, e] H = (((s.withH H).wdf []).put (some p) d).put (some q) e := rfl
theorem df_wdf (s : St) (H : Heap) (ds : List Deferred) : ({ s with H := H, df := ds } : St) = (s.withH H).wdf ds := rfl
theorem mk1 {D : Nat} {H : Heap} (h : H D = some (.obj dfr)) : mk [colD D] H := ⟨D, rfl, h, trivial⟩
theorem offM1 (D : Nat) (H : Heap) : offM [colD D] H = H.upd D .hid := rfl
theorem thenQ_n (N : St → Prop) (Q : Exit → St → Prop) (s : St) : thenQ N Q .normal s = N s := rfl
theorem blockQ_n (id : Nat) (Q : Exit → St → Prop) (s : St) : blockQ id Q .normal s = Q .normal s := rfl
theorem thenQ_r (N : St → Prop) (Q : Exit → St → Prop) (s : St) : thenQ N Q .ret s = Q .ret s := rfl
theorem blockQ_r (id : Nat) (Q : Exit → St → Prop) (s : St) : blockQ id Q .ret s = Q .ret s := rfl
theorem roundQ_n {α : Type} (I : List α → Heap → Prop) (Ix : Exit → List α → Heap → Prop) (ys : List α) (Hb : Heap) (s : St) : roundQ I Ix ys Hb .normal s = (s.df = [] ∧ objs Hb s.H ∧ I ys s.H) := rfl
theorem roundQ_r {α : Type} (I : List α → Heap → Prop) (Ix : Exit → List α → Heap → Prop) (ys : List α) (Hb : Heap) (s : St) : roundQ I Ix ys Hb .ret s = (s.df = [] ∧ objs Hb s.H ∧ Ix .ret ys s.H) := rfl
theorem Heap.le_put {H H' : Heap} {b : Nat} {x : HObj} (h : H.le H') (hb : H b = Option.none) : H.le (H'.upd b x) := fun c y e => by
  rw [Heap.upd_ne (fun hc => by rw [hc, hb] at e; cases e)]; exact h _ _ e
theorem Heap.none_of {H H' : Heap} {b : Nat} (h : H.le H') (hb : H' b = Option.none) : H b = Option.none := by
  cases e : H b with
  | none => rfl
  | some x => rw [h _ _ e] at hb; cases hb
theorem objs_grow {H0 Hb H1 H' : Heap} {e : TypeId} {sz : Nat} {els : List (List D)} {d : D} {ob : Option Nat} {p : Nat → Prop} (h : objs Hb H1) (hg : Gl H0 e sz els d H1 ob) (hp : ∀ b z, H1 b = some z → ob ≠ some b → H' b = some z ∧ p b) : objs Hb H' := fun c o hc => by
  have h1 := h c o hc
  refine (hp c _ h1 fun e => ?_).1
  rcases hg with ⟨h2, _⟩ | ⟨c', o', h2, _, _, h4⟩
  · rw [h2] at e; cases e
  · rw [h2] at e; injection e with e; rw [e, h1] at h4; cases h4
theorem Gl.new {H0 : Heap} {e : TypeId} {sz : Nat} {els : List (List D)} {d : D} {H : Heap} {ob : Option Nat} {b : Nat} {x : HObj} (h : Gl H0 e sz els d H ob) (hb : H b = none) : Gl H0 e sz els d (H.upd b x) ob := by
  rcases h with h | ⟨c, o, h1, h2, h3, h4⟩
  · exact .inl h
  · exact .inr ⟨c, o, h1, h2, h3, by rw [Heap.upd_ne (fun e => by rw [e, hb] at h4; cases h4)]; exact h4⟩
theorem Gl.obj {H0 : Heap} {e : TypeId} {sz : Nat} {els : List (List D)} {d : D} {H : Heap} {ob : Option Nat} {b : Nat} {x : HObj} {o : Obj} (h : Gl H0 e sz els d H ob) (hb : H b = some (.obj o)) : Gl H0 e sz els d (H.upd b x) ob := by
  rcases h with h | ⟨c, o, h1, h2, h3, h4⟩
  · exact .inl h
  · exact .inr ⟨c, o, h1, h2, h3, by rw [Heap.upd_ne (fun e => by rw [e, hb] at h4; cases h4)]; exact h4⟩
theorem Heap.ne_of {H : Heap} {b c : Nat} {x : HObj} (h : H b = some x) (hc : H c = Option.none) : b ≠ c := fun e => by rw [e, hc] at h; cases h
theorem objs_drop {H : Heap} {b l : Nat} {x : HObj} {y : Obj} (hx : ∀ o, x ≠ .obj o) : objs ((H.upd b x).upd l (.obj y)) (H.upd l (.obj y)) := fun c o e => by
  by_cases h1 : c = l
  · subst h1; rw [Heap.upd_same] at e ⊢; exact e
  · rw [Heap.upd_ne h1] at e ⊢
    by_cases h2 : c = b
    · subst h2; rw [Heap.upd_same] at e; injection e with e; exact absurd e (hx o)
    · rw [Heap.upd_ne h2] at e; exact e
theorem stepR_scope {P : Program} {b : Frame} {a : Act} {k : List Item} {cs : List Frame} {w : World} {c : Code} : step P (lone (b.atR a (.code (.scope c) :: k)) cs w) = .next (lone (b.atR a (.code c :: .inScope c :: k)) cs w) :=
  step_lone_go (by simp [stepG, stepG.exec, Frame.atR])
theorem stepR_inScope {P : Program} {b : Frame} {a : Act} {k : List Item} {cs : List Frame} {w : World} {c : Code} : step P (lone (b.atR a (.inScope c :: k)) cs w) = .next (lone (b.atR a k) cs w) :=
  step_lone_go (by simp [stepG, stepG.exec, Frame.atR])
def noGotoQ (Q : Exit → St → Prop) : Exit → St → Prop
  | .goto _, _ => False
  | e, s => Q e s
theorem W_scope {cx : Cx} {c : Code} {Q : Exit → St → Prop} {s : St} (h : W cx c (noGotoQ Q) s) : W cx (.scope c) Q s := fun a w m => by
  intro b k cs hro hb hr
  have h0 : (lone (b.atR a (.code (.scope c) :: k)) cs w).fenced cx.P (FR cx.ro) := fenced_calm hb hr rfl
  obtain ⟨e, a₁, w₁, ⟨s', m', hq⟩, harr⟩ := h a w m b (.inScope c :: k) cs hro hb hr
  cases e with
  | normal => exact ⟨.normal, a₁, w₁, ⟨s', m', hq⟩, .head h0 stepR_scope (StepsIn.trans harr (.one (fenced_calm hb hr rfl) stepR_inScope))⟩
  | exit id' =>
    have hx : exitTo id' (.inScope c :: k) = exitTo id' k := by simp [exitTo]
    exact ⟨.exit id', a₁, w₁, ⟨s', m', hq⟩, fun k' hk => .head h0 stepR_scope (harr.1 k' (by rw [hx]; exact hk)),
      fun hr' hk => let ⟨k₁, h1, h2⟩ := harr.2 hr' (by rw [hx]; exact hk); ⟨k₁, h1, .head h0 stepR_scope h2⟩⟩
  | goto l => exact hq.elim
  | ret => exact ⟨_, a₁, w₁, ⟨s', m', hq⟩, .of_steps (.one h0 stepR_scope) harr⟩
  | panic ch => exact ⟨_, a₁, w₁, ⟨s', m', hq⟩, .of_steps (.one h0 stepR_scope) harr⟩
  | outgrown => exact ⟨_, a₁, w₁, ⟨s', m', hq⟩, .of_steps (.one h0 stepR_scope) harr⟩
theorem noGotoQ_n (Q : Exit → St → Prop) (s : St) : noGotoQ Q .normal s = Q .normal s := rfl
theorem noGotoQ_r (Q : Exit → St → Prop) (s : St) : noGotoQ Q .ret s = Q .ret s := rfl
theorem noGotoQ_e (Q : Exit → St → Prop) (i : Nat) (s : St) : noGotoQ Q (.exit i) s = Q (.exit i) s := rfl
theorem withH_self (s : St) : s.withH s.H = s := rfl
def bsQ (P : Program) (t : TypeId) (len : Nat) (ds : List (Nat × D)) (K : D → Prop) : Prop :=
  match tyi P t with
  | some ⟨.slice e, _, _, _⟩ => (match tyi P e with
    | some ⟨_, sz, _, some zs⟩ => zs.length = sz ∧ ds.length = len ∧ len * sz ≤ 16777216 ∧ (match rowsD sz ds 0 with
      | some els => els.length = len ∧ K (.seq sz els)
      | none => False)
    | _ => False)
  | _ => False
theorem run_bsQ {P : Program} {H : Heap} {w : World} (hH : HOk w H) {t : TypeId} {len : Nat} {ds : List (Nat × D)} {vs : Array (Nat × Value)} {K : D → Prop} (h : bsQ P t len ds K) (hx : partsIs w H.others ds vs.toList) :
    ∃ r d' w' H', (Instr.buildSlice t len vs).run P w = .ok r w' ∧ D.is w' H'.others d' r ∧ HOk w' H' ∧ Ev H w H' w' ∧ (K d' ∧ H' = H) := by
  unfold bsQ at h
  split at h
  · rename_i e _ _ _ hT
    split at h
    · rename_i dE sz byE zs hE
      obtain ⟨h1, h2, h3, h4⟩ := h
      split at h4
      · rename_i els hr
        obtain ⟨hl, hk⟩ := h4
        obtain ⟨r, d', w', H', g1, g2, g3, g4, b, g5, g6, g7⟩ := run_bsV (K := fun d H' => ∃ b, H b = none ∧ d = .os b 0 sz 0 len ∧ H' = H.upd b (.row e 0 sz els)) hH (by
          unfold bsV
          rw [hT]; simp only
          rw [hE]; simp only
          refine ⟨h1, h2, h3, ?_⟩
          rw [hr]
          exact fun b hb => ⟨b, hb, rfl, rfl⟩) hx
        subst g6 g7
        rw [← hl] at g2
        exact ⟨r, .seq sz els, w', H, g1, row_seq g5 g3 g2, g3.less (Heap.le_new (Heap.le_refl _) g5), g4.less (Heap.le_new (Heap.le_refl _) g5), hk, rfl⟩
      · exact h4.elim
    · exact h.elim
  · exact h.elim
def stepOpQ (cx : Cx) (o : Oper) (s : St) (K : St → Prop) : Prop :=
  match o.op with
  | .buildSlice t (n + 1) ps => bsQ cx.P t (n + 1) (s.parts ps) fun d => K (s.put o.dst d)
  | _ => stepOp cx o s K
theorem stepQ_sound {cx : Cx} {o : Oper} {s : St} {K : St → Prop} (hd : okd cx.n o.dst) (h : stepOpQ cx o s K) : WO cx o K s := by
  unfold stepOpQ at h
  split at h
  · rename_i t n ps e
    refine WO_val (by simp [e]) hd fun a w m => ?_
    obtain ⟨r, d, w', H', h1, h2, h3, h4, h5, h6⟩ := run_bsQ m.H h (m.parts_ ps)
    subst h6
    exact ⟨r, w', d, s.H, by simp only [execOp, e, Sem.run_bind, h1, Result.andThen, Sem.run_pure], h2, h3, h4, h5⟩
  · exact step_sound hd h
def vcOpsQ (cx : Cx) (ops : Array Oper) (Q : Exit → St → Prop) : List Oper → St → Prop
  | [], s => Q .normal s
  | o :: rest, s => (match o.guard with
    | none => stepOpQ cx o s fun s' => if isCall o.op then WL cx ops rest Q s' else vcOpsQ cx ops Q rest s'
    | some (j, want) => (match dstOf ops j with
      | some t => (match s.fr t with
        | .val (.bool b) => selV (b == want) (stepOpQ cx o (s.put (some t) (.val (.bool want))) fun s' => if isCall o.op then WL cx ops rest Q s' else vcOpsQ cx ops Q rest s') (vcOpsQ cx ops Q rest ((s.put (some t) (.val (.bool !want))).put o.dst (.val undef)))
        | .val (.tuple ⟨[]⟩) => vcOpsQ cx ops Q rest (s.put o.dst (.val undef))
        | _ => False)
      | none => False))
theorem vcOpsQ_sound {cx : Cx} {ops : List Oper} {Q : Exit → St → Prop} (hok : okOps cx.n ops = true) : ∀ {l : List Oper} {s : St}, okOps cx.n l = true → vcOpsQ cx ops.toArray Q l s → WL cx ops.toArray l Q s
  | [], s, _, h => WL_nil h
  | o :: rest, s, hl, h => by
    simp only [okOps, List.all_cons, Bool.and_eq_true] at hl
    have hd : okd cx.n o.dst := by
      have := hl.1
      unfold okd
      cases ho : o.dst with
      | none => trivial
      | some t => rw [ho] at this; simpa using this
    have ih : ∀ s', vcOpsQ cx ops.toArray Q rest s' → WL cx ops.toArray rest Q s' := fun s' h' => vcOpsQ_sound hok hl.2 h'
    have ih2 : ∀ s', (if isCall o.op then WL cx ops.toArray rest Q s' else vcOpsQ cx ops.toArray Q rest s') → WL cx ops.toArray rest Q s' := fun s' h' => by
      split at h'
      · exact h'
      · exact ih s' h'
    simp only [vcOpsQ] at h
    split at h
    · rename_i hg
      exact WL_cons hg (WO_mono (stepQ_sound hd h) ih2)
    · rename_i j want hg
      split at h
      · rename_i t ht
        have htn : t < cx.n := by
          unfold dstOf at ht
          cases hj : ops.toArray[j]? with
          | none => rw [hj] at ht; cases ht
          | some o' =>
            rw [hj] at ht
            have := (List.all_eq_true.1 hok) o' (by have := Array.mem_of_getElem? hj; simpa using this)
            simp at ht
            rw [ht] at this
            simpa using this
        split at h
        · rename_i b hb
          exact WL_guard hg ht htn (okd_spec hd) (.inl ⟨b, hb, fun e => by
              have h2 := selV_t h (by rw [e]; cases want <;> rfl)
              rw [put_it (by rw [hb, e])] at h2
              exact WO_mono (stepQ_sound hd h2) ih2, fun e => by
              have h2 := selV_f h (by rw [e]; cases want <;> rfl)
              rw [put_it (by rw [hb, e])] at h2
              exact ih _ h2⟩)
        · rename_i hb
          exact WL_guard hg ht htn (okd_spec hd) (.inr ⟨hb, ih _ h⟩)
        · exact h.elim
      · exact h.elim
theorem W_opsQ {cx : Cx} {id : Nat} {ops : List Oper} {Q : Exit → St → Prop} {s : St} (hok : okOps cx.n ops = true) (h : vcOpsQ cx ops.toArray Q ops s) : W cx (.region id ops.toArray false) Q s :=
  W_region (vcOpsQ_sound hok hok h)
theorem WL_goQ {cx : Cx} {ops l : List Oper} {Q : Exit → St → Prop} {s : St} (hok : okOps cx.n ops = true) (hl : okOps cx.n l = true) (h : vcOpsQ cx ops.toArray Q l s) : WL cx ops.toArray l Q s := vcOpsQ_sound hok hl h
def LtN (i n : Nat) : Prop := i < n
theorem W_loopN {cx : Cx} {c : Code} {Q : Exit → St → Prop} {s : St} (n : Nat) (I : Nat → St → Prop) (h0 : I 0 s)
    (round : ∀ i s, i ≤ n → I i s → W cx c (thenQ (fun s' => LtN i n ∧ I (i + 1) s') Q) s) : W cx (.loop c) Q s := by
  refine W_loop (fun s => ∃ i, i ≤ n ∧ I i s) (fun s => Classical.epsilon fun k => ∃ i, i ≤ n ∧ I i s ∧ k = n - i ∧ ∀ j, j ≤ n → I j s → n - i ≤ n - j) s.H (Heap.le_refl _) ⟨0, Nat.zero_le _, h0⟩ ?_
  rintro s1 hex
  have pick : ∀ s : St, (∃ i, i ≤ n ∧ I i s) → ∃ i, i ≤ n ∧ I i s ∧ ∀ j, j ≤ n → I j s → n - i ≤ n - j := fun s ⟨i, hi, h⟩ => by
    obtain ⟨k, ⟨i', h1, h2, rfl⟩, h3⟩ := least (fun k => ∃ i, i ≤ n ∧ I i s ∧ n - i = k) ⟨_, i, hi, h, rfl⟩
    exact ⟨i', h1, h2, fun j hj hI => h3 _ ⟨j, hj, hI, rfl⟩⟩
  have mu : ∀ s : St, (∃ i, i ≤ n ∧ I i s) → ∃ i, i ≤ n ∧ I i s ∧ (Classical.epsilon fun k => ∃ i, i ≤ n ∧ I i s ∧ k = n - i ∧ ∀ j, j ≤ n → I j s → n - i ≤ n - j) = n - i ∧ ∀ j, j ≤ n → I j s → n - i ≤ n - j := fun s h => by
    obtain ⟨i, h1, h2, h3⟩ := pick s h
    obtain ⟨i', g1, g2, g3, g4⟩ := Classical.epsilon_spec (p := fun k => ∃ i, i ≤ n ∧ I i s ∧ k = n - i ∧ ∀ j, j ≤ n → I j s → n - i ≤ n - j) ⟨_, i, h1, h2, rfl, h3⟩
    exact ⟨i', g1, g2, g3, g4⟩
  obtain ⟨i, h1, h2, h3, h4⟩ := mu s1 hex
  refine W_mono (round i s1 h1 h2) fun e s' q => ?_
  cases e with
  | normal =>
    obtain ⟨hlt, hI⟩ := q
    replace hlt : i < n := hlt
    refine ⟨s'.H, Heap.le_refl _, ⟨i + 1, hlt, hI⟩, ?_⟩
    rw [h3]
    obtain ⟨j, g1, g2, g3, g4⟩ := mu s' ⟨i + 1, hlt, hI⟩
    show (Classical.epsilon _) < _
    have := g4 (i + 1) hlt hI
    rw [show s'.withH s'.H = s' from rfl, g3]
    omega
  | _ => exact q
def Frz (H H' : Heap) (d d0 : D) : Prop := ∀ w v, HOk w H' → D.is w H'.others d v → D.is w H.others d0 v
theorem Does.frz {P : Program} {f : FuncId} {ds : List D} {H : Heap} {K : D → Prop} (h : Does P f ds H fun d H' => H.le H' ∧ ∃ d0, Frz H H' d d0 ∧ K d0) : Does P f ds H fun d H' => K d ∧ H = H' :=
  h.post fun d H' ⟨hle, d0, hf, hk⟩ => ⟨d0, H, hle, hf, hk, rfl⟩
theorem frz_refl {H H' : Heap} {d : D} (h : H.le H') : Frz H H' d d := fun w v _ hv => D.is_keep (Kept.less h w) d hv
theorem frz_row {H H' : Heap} {b o sz k n : Nat} {ty : TypeId} {els : List (List D)} (hle : H.le H') (hb : H' b = some (.row ty o sz els)) (h0 : H b = none) (hn : k + n ≤ els.length) : Frz H H' (.os b o sz k n) (.seq sz ((els.drop k).take n)) := fun w v hH hv => by
  have h1 := frz_is hH hb hn hv
  refine D.is_keep (Kept.less (H' := H) (fun c x hc => ?_) w) _ h1
  rw [Heap.del_ne (fun e => by rw [e, h0] at hc; cases hc)]
  exact hle _ _ hc
theorem frz_nil {H H' : Heap} {sz : Nat} : Frz H H' (.val (.slice none 0 0)) (.seq sz []) := fun w v _ hv => nil_seq hv
theorem frz_gl {H H' : Heap} {e : TypeId} {sz : Nat} {els : List (List D)} {d : D} {ob : Option Nat} (hle : H.le H') (hg : Gl H e sz els d H' ob) : Frz H H' d (.seq sz els) := by
  rcases hg with ⟨_, rfl, rfl⟩ | ⟨c, o, _, rfl, h3, h4⟩
  · exact frz_nil
  · have := frz_row (k := 0) (n := els.length) hle h4 h3 (by omega)
    rwa [List.drop_zero, List.take_length] at this
def FrzL (H H' : Heap) : List D → List D → Prop
  | [], [] => True
  | d :: ds, e :: es => Frz H H' d e ∧ FrzL H H' ds es
  | _, _ => False
theorem FrzL.all {H H' : Heap} {w : World} (hH : HOk w H') : ∀ {ds es : List D} {vs : List Value}, FrzL H H' ds es → valsAll w H'.others ds vs → valsAll w H.others es vs
  | [], [], vs, _, h => by simp only [valsAll] at h ⊢; exact h
  | d :: ds, e :: es, vs, hv, h => by
    simp only [valsAll] at h ⊢
    obtain ⟨u, us, rfl, h1, h2⟩ := h
    exact ⟨u, us, rfl, hv.1 w u hH h1, FrzL.all hH hv.2 h2⟩
  | [], _ :: _, _, hv, _ => hv.elim
  | _ :: _, [], _, hv, _ => hv.elim
theorem FrzL.cells {H H' : Heap} {w : World} (hH : HOk w H') : ∀ {ds es : List D} {vs : List Value}, FrzL H H' ds es → cellsAll w H'.others ds vs → cellsAll w H.others es vs
  | [], [], vs, _, h => by simp only [cellsAll] at h ⊢; exact h
  | d :: ds, e :: es, vs, hv, h => by
    simp only [cellsAll] at h ⊢
    obtain ⟨u, us, rfl, h0, h1, h2⟩ := h
    exact ⟨u, us, rfl, h0, hv.1 w u hH h1, FrzL.cells hH hv.2 h2⟩
  | [], _ :: _, _, hv, _ => hv.elim
  | _ :: _, [], _, hv, _ => hv.elim
theorem frz_tup {H H' : Heap} {ds es : List D} (h : FrzL H H' ds es) : Frz H H' (.tup ds) (.tup es) := fun w v hH hv => by
  simp only [D.is] at hv ⊢
  obtain ⟨vs, rfl, h1⟩ := hv
  exact ⟨vs, rfl, h.all hH h1⟩
theorem frz_agg {H H' : Heap} {ds es : List D} (h : FrzL H H' ds es) : Frz H H' (.agg ds) (.agg es) := fun w v hH hv => by
  simp only [D.is] at hv ⊢
  obtain ⟨vs, rfl, h1⟩ := hv
  exact ⟨vs, rfl, h.cells hH h1⟩
theorem frz2 {H H' : Heap} {a a' b b' : D} (h : Frz H H' a a') (h2 : Frz H H' b b') : FrzL H H' [a, b] [a', b'] := ⟨h, h2, trivial⟩
theorem WL_frzs {cx : Cx} {ops : Array Oper} {l : List Oper} {Q : Exit → St → Prop} {s : St} (t : Nat) (H' : Heap) (d0 : D) (hle : H'.le s.H) (hf : Frz H' s.H (s.fr t) d0) (h : WL cx ops l Q ((s.withH H').put (some t) d0)) : WL cx ops l Q s := fun a w m => by
  refine h a w ?_
  have m2 := m.less hle
  refine ⟨m2.n, m2.df, fun x => ?_, m2.H, m2.ev⟩
  rw [put_some_fr]
  show D.is w H'.others _ _
  by_cases hx : x = t
  · subst hx; rw [if_pos rfl]; exact hf w _ m.H (m.fr x)
  · rw [if_neg hx]; exact m2.fr x
def Imp (d d' : D) : Prop := ∀ w S v, D.is w S d v → D.is w S d' v
theorem imp_refl (d : D) : Imp d d := fun _ _ _ h => h
theorem imp_nil {sz : Nat} : Imp (.val (.slice none 0 0)) (.seq sz []) := fun _ _ _ h => nil_seq h
def ImpL : List D → List D → Prop
  | [], [] => True
  | d :: ds, e :: es => Imp d e ∧ ImpL ds es
  | _, _ => False
def ImpR : List (List D) → List (List D) → Prop
  | [], [] => True
  | d :: ds, e :: es => ImpL d e ∧ ImpR ds es
  | _, _ => False
theorem ImpL.len : ∀ {ds es : List D}, ImpL ds es → ds.length = es.length
  | [], [], _ => rfl
  | d :: ds, e :: es, h => by rw [List.length_cons, List.length_cons, ImpL.len h.2]
  | [], _ :: _, h => h.elim
  | _ :: _, [], h => h.elim
theorem ImpR.len : ∀ {ds es : List (List D)}, ImpR ds es → ds.length = es.length
  | [], [], _ => rfl
  | d :: ds, e :: es, h => by rw [List.length_cons, List.length_cons, ImpR.len h.2]
  | [], _ :: _, h => h.elim
  | _ :: _, [], h => h.elim
theorem ImpL.at {w : World} {S : Nat → Prop} {b : Nat} : ∀ {ds es : List D} {o : Nat}, ImpL ds es → cellsAt w S b o ds → cellsAt w S b o es
  | [], [], _, _, h => by simp only [cellsAt] at h ⊢
  | d :: ds, e :: es, o, hv, h => by
    simp only [cellsAt] at h ⊢
    obtain ⟨⟨u, h1, h2, h3⟩, h4⟩ := h
    exact ⟨⟨u, h1, h2, hv.1 w S u h3⟩, ImpL.at hv.2 h4⟩
  | [], _ :: _, _, hv, _ => hv.elim
  | _ :: _, [], _, hv, _ => hv.elim
theorem ImpR.at {w : World} {S : Nat → Prop} {b sz : Nat} : ∀ {ds es : List (List D)} {o : Nat}, ImpR ds es → rowsAt w S b sz o ds → rowsAt w S b sz o es
  | [], [], _, _, h => by simp only [rowsAt] at h ⊢
  | d :: ds, e :: es, o, hv, h => by
    simp only [rowsAt] at h ⊢
    exact ⟨hv.1.len ▸ h.1, hv.1.at h.2.1, ImpR.at hv.2 h.2.2⟩
  | [], _ :: _, _, hv, _ => hv.elim
  | _ :: _, [], _, hv, _ => hv.elim
theorem imp_seq {sz : Nat} {els els' : List (List D)} (h : ImpR els els') : Imp (.seq sz els) (.seq sz els') := fun w S v hv => by
  simp only [D.is] at hv ⊢
  obtain ⟨A, c, rfl, h1, h2⟩ := hv
  refine ⟨A, c, by rw [h.len], by rw [← h.len]; exact h1, ?_⟩
  rcases h2 with h2 | ⟨b, o, h3, h4, h5, h6⟩
  · left
    have := h.len
    rw [h2] at this
    exact List.eq_nil_of_length_eq_zero this.symm
  · exact .inr ⟨b, o, h3, h4, h5, h.at h6⟩
theorem ImpL.vals {w : World} {S : Nat → Prop} : ∀ {ds es : List D} {vs : List Value}, ImpL ds es → valsAll w S ds vs → valsAll w S es vs
  | [], [], vs, _, h => by simp only [valsAll] at h ⊢; exact h
  | d :: ds, e :: es, vs, hv, h => by
    simp only [valsAll] at h ⊢
    obtain ⟨u, us, rfl, h1, h2⟩ := h
    exact ⟨u, us, rfl, hv.1 w S u h1, ImpL.vals hv.2 h2⟩
  | [], _ :: _, _, hv, _ => hv.elim
  | _ :: _, [], _, hv, _ => hv.elim
theorem impl_refl : ∀ l : List D, ImpL l l
  | [] => trivial
  | _ :: l => ⟨imp_refl _, impl_refl l⟩
theorem Does.imp {P : Program} {f : FuncId} {ds ds' : List D} {H : Heap} {K : D → Heap → Prop} (h : Does P f ds' H K) (hi : ImpL ds ds') : Does P f ds H K :=
  h.weak (Heap.le_refl _) fun _ _ _ hv => hi.vals hv
theorem callOK_eq {P : Program} {f : FuncId} {args : List D} {H : Heap} {x : D} (h : ∀ H'', H.le H'' → Does P f args H'' fun d H' => d = x ∧ H'' = H') : CallOK P f args H fun d A => A = Heap.none ∧ d = x :=
  callOK_of h fun _ _ _ hh => ⟨.none, Disj.none _, hh.2.symm, rfl, hh.1⟩
theorem ok_i64 {x : X} (h : DT.ok (.int .i64) x) : ∃ n : Int, x = .int .i64 n ∧ -9223372036854775808 ≤ n ∧ n ≤ 9223372036854775807 := by
  simp only [DT.ok] at h
  obtain ⟨n, rfl, hn⟩ := h
  simp [Lit.wf, IntKind.min, IntKind.max, IntKind.signed, IntKind.bits] at hn
  exact ⟨n, rfl, by omega⟩
def xI (n : Int) : X := .int .i64 n
def I64 (n : Int) : Prop := -9223372036854775808 ≤ n ∧ n ≤ 9223372036854775807
end Go.Proofs.YtgfhgeelfaalmaaGreatDoor
namespace Go.Proofs.YtgfhgeelfaalmaaGreatDoor
open Go.RowKit
open Go.Maps (Keyed)
set_option linter.unusedVariables false
set_option linter.unusedSimpArgs false
theorem W_loopM {cx : Cx} {c : Code} {Q : Exit → St → Prop} {s : St} (I : Nat → St → Prop) (n : Nat) (h0 : I n s)
    (round : ∀ k s, I k s → W cx c (thenQ (fun s' => ∃ k', LtN k' k ∧ I k' s') Q) s) : W cx (.loop c) Q s := by
  have mu : ∀ s : St, (∃ k, I k s) → I (Classical.epsilon fun k => I k s ∧ ∀ j, I j s → k ≤ j) s ∧ ∀ j, I j s → (Classical.epsilon fun k => I k s ∧ ∀ j, I j s → k ≤ j) ≤ j := fun s h =>
    Classical.epsilon_spec (p := fun k => I k s ∧ ∀ j, I j s → k ≤ j) (least (fun k => I k s) h)
  refine W_loop (fun s => ∃ k, I k s) (fun s => Classical.epsilon fun k => I k s ∧ ∀ j, I j s → k ≤ j) s.H (Heap.le_refl _) ⟨n, h0⟩ ?_
  rintro s1 hex
  obtain ⟨h1, h2⟩ := mu s1 hex
  refine W_mono (round _ s1 h1) fun e s' q => ?_
  cases e with
  | normal =>
    obtain ⟨k', hlt, hI⟩ := q
    refine ⟨s'.H, Heap.le_refl _, ⟨k', hI⟩, ?_⟩
    exact Nat.lt_of_le_of_lt ((mu s' ⟨k', hI⟩).2 k' hI) hlt
  | _ => exact q
def Gk (H0 : Heap) (e : TypeId) (sz : Nat) (els : List (List D)) (d : D) (H : Heap) (ob : Option Nat) : Prop :=
  (ob = none ∧ d = .val (.slice none 0 0) ∧ els = []) ∨ ∃ c o k els0, ob = some c ∧ d = .os c o sz k els.length ∧ H0 c = none ∧ H c = some (.row e o sz els0) ∧ els0.drop k = els ∧ k ≤ els0.length
theorem Gk.of {H0 : Heap} {e : TypeId} {sz : Nat} {els : List (List D)} {d : D} {H : Heap} {ob : Option Nat} (h : Gl H0 e sz els d H ob) : Gk H0 e sz els d H ob := by
  rcases h with h | ⟨c, o, h1, h2, h3, h4⟩
  · exact .inl h
  · exact .inr ⟨c, o, 0, els, h1, h2, h3, h4, rfl, Nat.zero_le _⟩
theorem Gk.keep {H0 : Heap} {e : TypeId} {sz : Nat} {els : List (List D)} {d : D} {H H' : Heap} {ob : Option Nat} (h : Gk H0 e sz els d H ob) (hk : ∀ c, ob = some c → H' c = H c) : Gk H0 e sz els d H' ob := by
  rcases h with h | ⟨c, o, k, els0, h1, h2, h3, h4, h5, h6⟩
  · exact .inl h
  · exact .inr ⟨c, o, k, els0, h1, h2, h3, (hk c h1).trans h4, h5, h6⟩
theorem Gk.cells {H0 : Heap} {e : TypeId} {sz : Nat} {els : List (List D)} {d : D} {H : Heap} {ob : Option Nat} (h : Gk H0 e sz els d H ob) : D.cells d = some [d] := by
  rcases h with ⟨_, rfl, _⟩ | ⟨c, o, _, _, _, rfl, _⟩ <;> rfl
theorem Gk.cons {H0 : Heap} {e : TypeId} {sz : Nat} {x : List D} {els : List (List D)} {d : D} {H : Heap} {ob : Option Nat} (h : Gk H0 e sz (x :: els) d H ob) : ∃ c o k els0, ob = some c ∧ d = .os c o sz k (els.length + 1) ∧ H0 c = none ∧ H c = some (.row e o sz els0) ∧ els0.drop k = x :: els ∧ k ≤ els0.length ∧ els0[k]? = some x ∧ els0.drop (k + 1) = els ∧ k + 1 ≤ els0.length := by
  rcases h with ⟨_, _, h⟩ | ⟨c, o, k, els0, h1, h2, h3, h4, h5, h6⟩
  · cases h
  · have hlt : k < els0.length := by
      have := congrArg List.length h5
      rw [List.length_drop, List.length_cons] at this; omega
    rw [List.drop_eq_getElem_cons hlt] at h5
    injection h5 with h5 h7
    exact ⟨c, o, k, els0, h1, by simpa using h2, h3, h4, by rw [List.drop_eq_getElem_cons hlt, h5, h7], h6, by rw [List.getElem?_eq_getElem hlt, h5], h7, hlt⟩
theorem apV_growK {P : Program} {H0 H : Heap} {t xt e : TypeId} {td xd : Ti} {sz by_ : Nat} {zs : List Value} {ed : TD} {els new : List (List D)} {x y : D} {K : D → Heap → Prop} {ob : Option Nat}
    (h1 : tyi P t = some td) (h1' : td.d = .slice e) (h2 : tyi P xt = some xd) (h2' : xd.d.notInt = true) (h3 : tyi P e = some ⟨ed, sz, by_, some zs⟩) (hzs : zs.length = sz) (hby : by_ ≠ 0)
    (hle : H0.le H) (hs : Gk H0 e sz els x H ob) (hy : newsP H sz y (· = new)) (hb : (els.length + new.length) * by_ ≤ 140737488355328)
    (hk : ∀ d H' ob', Gl H0 e sz (els ++ new) d H' ob' → H0.le H' → (∀ b z, H b = some z → ob ≠ some b → H' b = some z ∧ ob' ≠ some b) → K d H') : apV P H t xt x y K := by
  rcases hs with hs | ⟨c, o, k, els0, rfl, rfl, hc0, hc, hd, hkl⟩
  · exact apV_grow h1 h1' h2 h2' h3 hzs hby hle (.inl hs) hy hb hk
  · obtain ⟨d0, i0, j0, k0⟩ := td
    simp only at h1'
    subst h1'
    unfold Go.Proofs.YtgfhgeelfaalmaaGreatDoor.apV
    rw [h1, h2]
    simp only
    refine ⟨h2', ?_⟩
    rw [h3]
    simp only
    refine ⟨hzs, hby, newsP_of hy ?_⟩
    refine ⟨trivial, hb, ?_⟩
    rw [hc]
    simp only
    have hlen := congrArg List.length hd
    rw [List.length_drop] at hlen
    refine ⟨trivial, trivial, trivial, by omega, fun b' o' hb' => ?_⟩
    have h0 : H0 b' = none := by
      cases hx : H0 b' with
      | none => rfl
      | some x =>
        have h5 := hle _ _ hx
        have hne : b' ≠ c := fun e => by rw [e, hc0] at hx; cases hx
        rw [Heap.del_ne hne, h5] at hb'; cases hb'
    refine hk _ _ (some b') (.inr ⟨b', o', rfl, by rw [List.length_append], h0, ?_⟩) (Heap.le_new (Heap.le_del hle hc0) hb') fun b z hz hne => ?_
    · rw [Heap.upd_same, hd, List.take_length]
    · have hbc : b ≠ c := fun e => hne (by rw [e])
      have hbb : b ≠ b' := fun e => by rw [← e, Heap.del_ne hbc, hz] at hb'; cases hb'
      exact ⟨by rw [Heap.upd_ne hbb, Heap.del_ne hbc]; exact hz, fun e => hbb (by injection e with e; exact e.symm)⟩
structure IntM (m : List (Value × D)) (f : Int → Option D) : Prop where
  keys : ∀ p ∈ m, ∃ x : Int, (-9223372036854775808 ≤ x ∧ x ≤ 9223372036854775807) ∧ p.1 = .int .i64 x
  get : ∀ x : Int, mget m (.int .i64 x) = f x
theorem IntM.nil : IntM [] fun _ => Option.none := ⟨(fun p hp => by cases hp), (fun x => rfl)⟩
theorem mset_mem : ∀ {m : List (Value × D)} {x : Value} {d : D} {p : Value × D}, p ∈ mset m x d → p = (x, d) ∨ p ∈ m
  | [], x, d, p, h => by simp only [mset, List.mem_singleton] at h; exact .inl h
  | q :: m, x, d, p, h => by
    simp only [mset] at h
    split at h
    · rcases List.mem_cons.1 h with h | h
      · exact .inl h
      · exact .inr (List.mem_cons_of_mem _ h)
    · rcases List.mem_cons.1 h with h | h
      · exact .inr (h ▸ List.mem_cons_self)
      · rcases mset_mem h with h | h
        · exact .inl h
        · exact .inr (List.mem_cons_of_mem _ h)
theorem IntM.set {m : List (Value × D)} {f : Int → Option D} (h : IntM m f) {x : Int} (hx : -9223372036854775808 ≤ x ∧ x ≤ 9223372036854775807) (d : D) : IntM (mset m (.int .i64 x) d) fun y => if y = x then some d else f y where
  keys := fun p hp => by
    rcases mset_mem hp with rfl | hp
    · exact ⟨x, hx, rfl⟩
    · exact h.keys p hp
  get := fun y => by
    by_cases e : y = x
    · subst e; rw [mget_mset_same, if_pos rfl]
    · rw [mget_mset_ne _ _ (fun he => e (by injection he with _ he; exact he.symm)), if_neg e]; exact h.get y
theorem keyOf_i64 {P : Program} {k : TypeId} (hk : P.underlying k = some (.int .i64)) {x : Int} (hx : -9223372036854775808 ≤ x ∧ x ≤ 9223372036854775807) : ∃ l, keyOf P k (.int .i64 x) = some l := by
  unfold keyOf
  rw [hk]
  simp only [mapKey, hk]
  rw [if_pos ⟨trivial, by simp [Lit.wf, IntKind.min, IntKind.max, IntKind.signed, IntKind.bits]; omega⟩]
  exact ⟨_, rfl⟩
theorem IntM.ok {P : Program} {k : TypeId} (hk : P.underlying k = some (.int .i64)) {m : List (Value × D)} {f : Int → Option D} (h : IntM m f) {x : Int} (hx : -9223372036854775808 ≤ x ∧ x ≤ 9223372036854775807) : kOK P k m (.int .i64 x) :=
  ⟨Go.Maps.int_keyed hk, keyOf_i64 hk hx, fun p hp => by obtain ⟨y, hy, e⟩ := h.keys p hp; rw [e]; exact keyOf_i64 hk hy⟩
theorem IntM.congr {m : List (Value × D)} {f g : Int → Option D} (h : IntM m f) (he : ∀ x, f x = g x) : IntM m g := ⟨h.keys, fun x => (h.get x).trans (he x)⟩
end Go.Proofs.YtgfhgeelfaalmaaGreatDoor
namespace Go.Proofs.YtgfhgeelfaalmaaGreatDoor
open Go.RowKit
set_option linter.unusedVariables false
set_option linter.unusedSimpArgs false
def nQ (N : St → Prop) : Exit → St → Prop
  | .normal, s => N s
  | _, _ => False
theorem nQ_n (N : St → Prop) (s : St) : nQ N .normal s = N s := rfl
theorem nQ_to {N : St → Prop} {Q : Exit → St → Prop} (h : ∀ s, N s → Q .normal s) : ∀ e s, nQ N e s → Q e s := fun e s q => by
  cases e <;> first | exact h s q | exact q.elim
def vcOpsS (cx : Cx) (ops : Array Oper) (Q : Exit → St → Prop) : List Oper → St → Prop
  | [], s => Q .normal s
  | o :: rest, s => (match o.guard with
    | none => stepOpQ cx o s fun s' => if isCall o.op then WL cx ops rest Q s' else vcOpsS cx ops Q rest s'
    | some _ => WL cx ops (o :: rest) Q s)
def vcOpsT (cx : Cx) (ops : Array Oper) (Q : Exit → St → Prop) : List Oper → St → Prop
  | [], s => Q .normal s
  | o :: rest, s => (match o.guard with
    | none => stepOp cx o s fun s' => if isCall o.op then WL cx ops rest Q s' else vcOpsT cx ops Q rest s'
    | some _ => WL cx ops (o :: rest) Q s)
theorem okd_of {n : Nat} {o : Oper} {l : List Oper} (hl : okOps n (o :: l) = true) : okd n o.dst ∧ okOps n l = true := by
  simp only [okOps, List.all_cons, Bool.and_eq_true] at hl
  refine ⟨?_, hl.2⟩
  have := hl.1
  unfold okd
  cases ho : o.dst with
  | none => trivial
  | some t => rw [ho] at this; simpa using this
theorem vcOpsS_sound {cx : Cx} {ops : List Oper} {Q : Exit → St → Prop} : ∀ {l : List Oper} {s : St}, okOps cx.n l = true → vcOpsS cx ops.toArray Q l s → WL cx ops.toArray l Q s
  | [], s, _, h => WL_nil h
  | o :: rest, s, hl, h => by
    obtain ⟨hd, hr⟩ := okd_of hl
    simp only [vcOpsS] at h
    split at h
    · rename_i hg
      refine WL_cons hg (WO_mono (stepQ_sound hd h) fun s' h' => ?_)
      split at h'
      · exact h'
      · exact vcOpsS_sound hr h'
    · exact h
theorem vcOpsT_sound {cx : Cx} {ops : List Oper} {Q : Exit → St → Prop} : ∀ {l : List Oper} {s : St}, okOps cx.n l = true → vcOpsT cx ops.toArray Q l s → WL cx ops.toArray l Q s
  | [], s, _, h => WL_nil h
  | o :: rest, s, hl, h => by
    obtain ⟨hd, hr⟩ := okd_of hl
    simp only [vcOpsT] at h
    split at h
    · rename_i hg
      refine WL_cons hg (WO_mono (step_sound hd h) fun s' h' => ?_)
      split at h'
      · exact h'
      · exact vcOpsT_sound hr h'
    · exact h
theorem W_opsE {cx : Cx} {id : Nat} {ops : List Oper} {Q : Exit → St → Prop} {s : St} (hok : okOps cx.n ops = true) (h : ∀ N : St → Prop, (∀ s, Q .normal s → N s) → vcOpsS cx ops.toArray (nQ N) ops s) : W cx (.region id ops.toArray false) Q s :=
  W_mono (W_region (vcOpsS_sound hok (h (Q .normal) fun _ h => h))) (nQ_to fun _ h => h)
theorem W_opsO {cx : Cx} {id : Nat} {ops : List Oper} {Q : Exit → St → Prop} {s : St} (hok : okOps cx.n ops = true) (h : ∀ N : St → Prop, (∀ s, Q .normal s → N s) → vcOpsT cx ops.toArray (nQ N) ops s) : W cx (.region id ops.toArray false) Q s :=
  W_mono (W_region (vcOpsT_sound hok (h (Q .normal) fun _ h => h))) (nQ_to fun _ h => h)
def gS (cx : Cx) (o : Oper) (s : St) (t : Nat) (want : Bool) (d : D) (N : St → Prop) : Prop :=
  match d with
  | .val (.bool b) => selV (b == want) (stepOpQ cx o s N) (N (s.put o.dst (.val undef)))
  | .val (.tuple ⟨[]⟩) => N (s.put o.dst (.val undef))
  | _ => False
def gT (cx : Cx) (o : Oper) (s : St) (t : Nat) (want : Bool) (d : D) (N : St → Prop) : Prop :=
  match d with
  | .val (.bool b) => selV (b == want) (stepOp cx o s N) (N (s.put o.dst (.val undef)))
  | .val (.tuple ⟨[]⟩) => N (s.put o.dst (.val undef))
  | _ => False
theorem WL_g0 {cx : Cx} {ops : List Oper} {o : Oper} {rest : List Oper} {Q : Exit → St → Prop} {s : St} {j t : Nat} {want : Bool} (hg : o.guard = some (j, want)) (hj : dstOf ops.toArray j = some t) (hok : okOps cx.n ops = true) (hl : okOps cx.n (o :: rest) = true)
    {d : D} (hd : s.fr t = d) (h : (∃ b, d = .val (.bool b) ∧ (b = want → WO cx o (WL cx ops.toArray rest Q) s) ∧ (b = !want → WL cx ops.toArray rest Q (s.put o.dst (.val undef)))) ∨ (d = .val undef ∧ WL cx ops.toArray rest Q (s.put o.dst (.val undef)))) : WL cx ops.toArray (o :: rest) Q s := by
  obtain ⟨hdo, hr⟩ := okd_of hl
  have htn : t < cx.n := by
    unfold dstOf at hj
    cases hq : ops.toArray[j]? with
    | none => rw [hq] at hj; cases hj
    | some o' =>
      rw [hq] at hj
      have := (List.all_eq_true.1 hok) o' (by have := Array.mem_of_getElem? hq; simpa using this)
      simp at hj
      rw [hj] at this
      simpa using this
  refine WL_guard hg hj htn (okd_spec hdo) ?_
  rw [hd]
  exact h
theorem WL_gE {cx : Cx} {ops : List Oper} {o : Oper} {rest : List Oper} {Q : Exit → St → Prop} {s : St} {j t : Nat} {want : Bool} (hg : o.guard = some (j, want)) (hj : dstOf ops.toArray j = some t) (hok : okOps cx.n ops = true) (hl : okOps cx.n (o :: rest) = true)
    (h : ∀ N : St → Prop, (∀ s, WL cx ops.toArray rest Q s → N s) → gS cx o s t want (s.fr t) N) : WL cx ops.toArray (o :: rest) Q s := by
  have h := h (WL cx ops.toArray rest Q) fun _ h => h
  refine WL_g0 hg hj hok hl rfl ?_
  unfold gS at h
  split at h
  · rename_i b hb
    rw [selW_iff] at h
    exact .inl ⟨b, hb, fun e => stepQ_sound (okd_of hl).1 (h.1 e), h.2⟩
  · rename_i hb
    exact .inr ⟨hb, h⟩
  · exact h.elim
theorem WL_gO {cx : Cx} {ops : List Oper} {o : Oper} {rest : List Oper} {Q : Exit → St → Prop} {s : St} {j t : Nat} {want : Bool} (hg : o.guard = some (j, want)) (hj : dstOf ops.toArray j = some t) (hok : okOps cx.n ops = true) (hl : okOps cx.n (o :: rest) = true)
    (h : ∀ N : St → Prop, (∀ s, WL cx ops.toArray rest Q s → N s) → gT cx o s t want (s.fr t) N) : WL cx ops.toArray (o :: rest) Q s := by
  have h := h (WL cx ops.toArray rest Q) fun _ h => h
  refine WL_g0 hg hj hok hl rfl ?_
  unfold gT at h
  split at h
  · rename_i b hb
    rw [selW_iff] at h
    exact .inl ⟨b, hb, fun e => step_sound (okd_of hl).1 (h.1 e), h.2⟩
  · rename_i hb
    exact .inr ⟨hb, h⟩
  · exact h.elim
theorem W_ifE {cx : Cx} {Q : Exit → St → Prop} {s : St} {c : Operand} {x y : Code} (h : ∀ A B : Prop, (W cx x Q s → A) → (W cx y Q s → B) → condV (s.ev c) A B) : W cx (.cond c x y) Q s :=
  W_if (h _ _ (fun h => h) fun h => h)
def vcDS (P : Program) (G : Option Tmp → List D → D → Heap → Prop) (H : Heap) (ops : Array Oper) (Q : St → Prop) : List Oper → St → Prop
  | [], s => Q s
  | o :: rest, s => (match o.guard with
    | none => calmOp P G H s o fun d A => Disj A s.H → vcDS P G H ops Q rest (s.out o d A)
    | some _ => vcD P G H ops Q (o :: rest) s)
theorem vcDS_to {P : Program} {G : Option Tmp → List D → D → Heap → Prop} {H : Heap} {ops : Array Oper} {Q : St → Prop} : ∀ {l : List Oper} {s : St}, vcDS P G H ops Q l s → vcD P G H ops Q l s
  | [], s, h => h
  | o :: rest, s, h => by
    simp only [vcDS] at h
    split at h
    · rename_i hg
      show gOp P G H ops s o _
      unfold gOp
      rw [hg]
      exact (calm_uni P G H s o).2 _ _ (fun d A hk hd => vcDS_to (hk hd)) h
    · exact h
def gdY (P : Program) (G : Option Tmp → List D → D → Heap → Prop) (H : Heap) (s : St) (o : Oper) (want : Bool) (d : D) (K : D → Heap → Prop) : Prop :=
  match d with
  | .val (.bool b) => selV (b == want) (calmOp P G H s o K) (K (.val undef) .none)
  | .val (.tuple ⟨[]⟩) => K (.val undef) .none
  | _ => False
theorem vcD_g {P : Program} {G : Option Tmp → List D → D → Heap → Prop} {H : Heap} {ops : List Oper} {Q : St → Prop} {o : Oper} {rest : List Oper} {s : St} {j t : Nat} {want : Bool} (hg : o.guard = some (j, want)) (hj : dstOf ops.toArray j = some t)
    (h : ∀ N : St → Prop, (∀ s, vcD P G H ops.toArray Q rest s → N s) → gdY P G H s o want (s.fr t) fun d A => Disj A s.H → N (s.out o d A)) : vcD P G H ops.toArray Q (o :: rest) s := by
  have h := h (vcD P G H ops.toArray Q rest) fun _ h => h
  show gOp P G H ops.toArray s o _
  unfold gOp
  rw [hg]
  simp only [hj]
  unfold gdY at h
  exact h
theorem W_drawE {cx : Cx} {id : Nat} {ops : List Oper} {Q : Exit → St → Prop} {s : St} (G : Option Tmp → List D → D → Heap → Prop) (hm : cx.P.follows .mixedOrders = true) (hok : okOps cx.n ops = true) (hdep : depOK ops = true)
    (h : ∀ N : St → Prop, (∀ s, Q .normal s → N s) → vcD cx.P G s.H ops.toArray N ops s) : W cx (.region id ops.toArray true) Q s :=
  W_mono (W_draw (Q := nQ (Q .normal)) G hm hok hdep (h (Q .normal) fun _ h => h)) (nQ_to fun _ h => h)
def vcWS (P : Program) (fl wc : Option Tmp → Bool) (G : Option Tmp → List D → D → Heap → Prop) (GW : Option Tmp → List D → Heap → D → Heap → Prop) (ops : Array Oper) (Q : St → Prop) : Heap → List Oper → St → Prop
  | _, [], s => Q s
  | H, o :: rest, s => (match o.guard with
    | none => if isWild wc o = true then wildOp P GW s o fun d H' => vcWS P fl wc G GW ops Q H' rest (s.outW o d H')
      else calmOp P G (hOf fl H o) s o fun d A => Disj A s.H → vcWS P fl wc G GW ops Q H rest (s.out o d A)
    | some _ => vcW P fl wc G GW ops Q H (o :: rest) s)
theorem vcWS_to {P : Program} {fl wc : Option Tmp → Bool} {G : Option Tmp → List D → D → Heap → Prop} {GW : Option Tmp → List D → Heap → D → Heap → Prop} {ops : Array Oper} {Q : St → Prop} : ∀ {l : List Oper} {H : Heap} {s : St}, vcWS P fl wc G GW ops Q H l s → vcW P fl wc G GW ops Q H l s
  | [], H, s, h => h
  | o :: rest, H, s, h => by
    simp only [vcWS] at h
    split at h
    · rename_i hg
      unfold vcW
      split at h
      · rename_i hw
        rw [if_pos hw]
        unfold gW
        rw [hg]
        exact (wild_uni P GW s o).2 _ _ (fun d A hk => vcWS_to hk) h
      · rename_i hw
        rw [if_neg hw]
        unfold gOp
        rw [hg]
        exact (calm_uni P G _ s o).2 _ _ (fun d A hk hd => vcWS_to (hk hd)) h
    · exact h
theorem W_wildE {cx : Cx} {id : Nat} {ops : List Oper} {Q : Exit → St → Prop} {s : St} (fl wc : Option Tmp → Bool) (G : Option Tmp → List D → D → Heap → Prop) (GW : Option Tmp → List D → Heap → D → Heap → Prop) (hm : cx.P.follows .mixedOrders = true)
    (hok : okOps cx.n ops = true) (hdep : depOK ops = true) (htab : tabOK ops (tabOf ops) = true) (hord : ordOK fl wc ops (tabOf ops) = true)
    (h : ∀ N : St → Prop, (∀ s, Q .normal s → N s) → vcW cx.P fl wc G GW ops.toArray N s.H ops s) : W cx (.region id ops.toArray true) Q s :=
  W_mono (W_wild (Q := nQ (Q .normal)) fl wc G GW hm hok hdep htab hord (h (Q .normal) fun _ h => h)) (nQ_to fun _ h => h)
theorem W_midA {cx : Cx} {x y : Code} {Q : Exit → St → Prop} {s : St} (t : Nat) (d0 d : D) (hi : Imp d0 d) (M : St → Prop) (h1 : W cx x (thenQ (fun s' => M s' ∨ (s'.fr t = d0 ∧ M (s'.put (some t) d))) (fun _ _ => False)) s) (h2 : ∀ s, M s → W cx y Q s) : W cx (.seq x y) Q s :=
  W_mid _ h1 fun s' h => by
    rcases h with h | ⟨h, hm⟩
    · exact h2 s' h
    · exact W_as t d (fun w v hv => hi _ _ _ (by rw [h] at hv; exact hv)) (h2 _ hm)
theorem els_own {H : Heap} {b o sz n : Nat} {t : TypeId} {els : List (List D)} (h : H b = some (.row t o sz els)) (hn : n = els.length) : elsP H sz (.os b o sz 0 n) (· = els) := by
  subst hn
  simp only [elsP, h, List.drop_zero, List.take_length]
  exact ⟨trivial, trivial, trivial, by omega, trivial⟩
def Dom (H0 H' : Heap) : Prop := ∀ b, H' b = none → H0 b = none
theorem ev_dom {H0 H' : Heap} (h : Dom H0 H') (w : World) : Ev H' w H0 w := ⟨rfl, rfl, rfl, Nat.le_refl _, fun b _ hn => ⟨rfl, h b hn⟩, fun _ _ _ fr h => ⟨_, fr, h, rfl⟩⟩
theorem frz_same {H0 H' : Heap} {d : D} (h : Dom H0 H') : Frz H0 H' d d := fun w v _ hv => D.is_keep (ev_dom h w).kept d hv
theorem frz_rowD {H0 H' : Heap} {b o sz k n : Nat} {ty : TypeId} {els : List (List D)} (hd : Dom H0 H') (hb : H' b = some (.row ty o sz els)) (h0 : H0 b = none) (hn : k + n ≤ els.length) : Frz H0 H' (.os b o sz k n) (.seq sz ((els.drop k).take n)) := fun w v hH hv => by
  have hd' : Dom H0 (H'.del b) := fun c hc => by
    by_cases e : c = b
    · rw [e]; exact h0
    · rw [Heap.del_ne e] at hc; exact hd c hc
  exact D.is_keep (ev_dom hd' w).kept _ (frz_is hH hb hn hv)
theorem valsAll_frz {H0 H' : Heap} {w : World} (hH : HOk w H') {g : Value → D} : ∀ {m : List (Value × D)} {vs : List Value}, (∀ p ∈ m, Frz H0 H' p.2 (g p.1)) → valsAll w H'.others (m.map (·.2)) vs → valsAll w H0.others ((m.map fun p => (p.1, g p.1)).map (·.2)) vs
  | [], vs, _, h => by simp only [List.map_nil, valsAll] at h ⊢; exact h
  | p :: m, vs, hf, h => by
    simp only [List.map_cons, valsAll] at h ⊢
    obtain ⟨u, us, rfl, h1, h2⟩ := h
    exact ⟨u, us, rfl, hf p (by simp) w u hH h1, valsAll_frz hH (fun q hq => hf q (by simp [hq])) h2⟩
theorem mget_of_mem : ∀ {m : List (Value × D)} {p : Value × D}, (m.map (·.1)).Nodup → p ∈ m → mget m p.1 = some p.2
  | [], p, _, h => by cases h
  | q :: m, p, hn, h => by
    rw [List.map_cons, List.nodup_cons] at hn
    simp only [mget]
    rcases List.mem_cons.1 h with rfl | h
    · rw [if_pos rfl]
    · rw [if_neg fun (e : q.1 = p.1) => hn.1 (by rw [e]; exact List.mem_map_of_mem (f := (·.1)) h)]
      exact mget_of_mem hn.2 h
theorem mget_mapG (g : Value → D) : ∀ (m : List (Value × D)) (x : Value), mget (m.map fun p => (p.1, g p.1)) x = (mget m x).map fun _ => g x
  | [], x => rfl
  | q :: m, x => by
    simp only [List.map_cons, mget]
    by_cases e : q.1 = x
    · rw [if_pos e, if_pos e, e]; rfl
    · rw [if_neg e, if_neg e]; exact mget_mapG g m x
theorem IntM.mapG {m : List (Value × D)} {f : Int → Option D} (h : IntM m f) (g : Value → D) : IntM (m.map fun p => (p.1, g p.1)) fun x => (f x).map fun _ => g (.int .i64 x) where
  keys := fun p hp => by
    obtain ⟨q, hq, rfl⟩ := List.mem_map.1 hp
    exact h.keys q hq
  get := fun x => by rw [mget_mapG, h.get]
theorem HOk.redesc {H0 H' : Heap} {w : World} (hd : Dom H0 H') (hH : HOk w H')
    (h : ∀ b x, H0 b = some x → H' b = some x ∨ ∃ (m : List (Value × D)) (g : Value → D), H' b = some (.map m) ∧ x = .map (m.map fun p => (p.1, g p.1)) ∧ ((m.map (·.1)).Nodup → ∀ p ∈ m, Frz H0 H' p.2 (g p.1))) : HOk w H0 := fun b x hb => by
  rcases h b x hb with h | ⟨m, g, h1, rfl, h2⟩
  · exact (ev_dom hd w).objAt rfl (hH b x h)
  · obtain ⟨es, clock, e1, e2, e3, e4, e5⟩ := hH b _ h1
    refine ⟨es, clock, e1, ?_, valsAll_frz hH (h2 e4) e3, ?_⟩
    · rw [e2, List.map_map]; rfl
    · rw [List.map_map]; exact ⟨e4, e5⟩
theorem Does.redesc {P : Program} {f : FuncId} {ds : List D} {H : Heap} {K K0 : D → Heap → Prop} (h : Does P f ds H K)
    (hk : ∀ d H', K d H' → ∃ d0 H0, Dom H0 H' ∧ (∀ w, HOk w H' → HOk w H0) ∧ Frz H0 H' d d0 ∧ K0 d0 H0) : Does P f ds H K0 :=
  And.intro h.1 fun w vs hvs hH hG => (h.2 w vs hvs hH hG).mono fun e w' ⟨v, d, H', he, hd, hH', hev, hk0⟩ => by
    obtain ⟨d0, H0, h1, h2, h3, h4⟩ := hk d H' hk0
    exact ⟨v, d0, H0, he, h3 w' v hH' hd, h2 w' hH', hev.trans (ev_dom h1 w'), h4⟩
theorem evT {P Q : Prop} (hq : Q) (h : Q → P := by intro h; simp (maxSteps := 4000000) only [vX, vB, vT, vZ, vcOps, isCall, mmV, lkV, muV, keyVal, keyVals, mget_nil, ↓selV_eq, eqK, stepOp, clV, biV, bnU, nilU, binV, bInt, bStr, bNilP, bNilS, bNilM, nilOp, D.nilPtr, D.nilSl, D.nilMap, isBoolTy, unV, cwV, cvV, elsP, partV, fieldsOf, fieldV, faV, iaV, ixV, ldC, ldV, stV, D.cells, putAt, bxV, alV, bldD, placesOf, allSized, bdV, bsV, rowsD, mkV, bdN, slV, newsP, TD.notInt, TD.agg, azV, clrV, cpyV, cpV, lenV, minV, maxV, ncV, exV, condV, retV, thenQ, blockQ, Value.oneCell', forall_const, true_implies, ne_eq, reduceCtorEq, false_implies, eq_self, if_true, if_false, ↓reduceIte, Nat.reduceEqDiff, Int.reduceLE, Int.reduceLT, Int.reduceNeg, Int.reduceToNat, Nat.reduceAdd, Nat.reduceMul, Nat.reduceLeDiff, Nat.reduceMod, Nat.reduceSub, Int.reduceEq, Int.reduceNe, Int.reduceAdd, Int.reduceSub, Int.reduceMul, implies_true, wdf_fr, wdf_H, wdf_df, wdf_withH, thenQ_n, thenQ_r, blockQ_n, blockQ_r, roundQ_n, roundQ_r, noGotoQ_n, noGotoQ_r, noGotoQ_e, vcOpsQ, stepOpQ, bsQ, nQ_n, vcOpsS, vcOpsT, gS, gT, fs]; exact h) : P := h hq
theorem evQ {P Q : Prop} (hq : Q) (h : Q → P := by intro h; simp (maxSteps := 4000000) only [vX, vB, vT, vZ, vcOps, isCall, mmV, lkV, muV, keyVal, keyVals, mget_nil, ↓selV_eq, eqK, stepOp, clV, biV, bnU, nilU, binV, bInt, bStr, bNilP, bNilS, bNilM, nilOp, D.nilPtr, D.nilSl, D.nilMap, isBoolTy, unV, cwV, cvV, elsP, partV, fieldsOf, fieldV, faV, iaV, ixV, ldC, ldV, stV, D.cells, putAt, bxV, alV, bldD, placesOf, allSized, bdV, bsV, rowsD, mkV, bdN, slV, newsP, TD.notInt, TD.agg, azV, clrV, cpyV, cpV, lenV, minV, maxV, ncV, exV, condV, retV, thenQ, blockQ, Value.oneCell', forall_const, true_implies, ne_eq, reduceCtorEq, false_implies, eq_self, if_true, if_false, ↓reduceIte, Nat.reduceEqDiff, Int.reduceLE, Int.reduceLT, Int.reduceNeg, Int.reduceToNat, Nat.reduceAdd, Nat.reduceMul, Nat.reduceLeDiff, Nat.reduceMod, Nat.reduceSub, Int.reduceEq, Int.reduceNe, Int.reduceAdd, Int.reduceSub, Int.reduceMul, implies_true, wdf_fr, wdf_H, wdf_df, wdf_withH, thenQ_n, thenQ_r, blockQ_n, blockQ_r, roundQ_n, roundQ_r, noGotoQ_n, noGotoQ_r, noGotoQ_e, vcOpsQ, stepOpQ, bsQ, fs]; exact h) : P := h hq
theorem evD {P Q : Prop} (hq : Q) (h : Q → P := by intro h; simp (maxSteps := 4000000) only [vX, vB, vT, vZ, vcOps, isCall, mmV, lkV, muV, keyVal, keyVals, mget_nil, ↓selV_eq, eqK, stepOp, clV, biV, bnU, nilU, binV, bInt, bStr, bNilP, bNilS, bNilM, nilOp, D.nilPtr, D.nilSl, D.nilMap, isBoolTy, unV, cwV, cvV, elsP, partV, fieldsOf, fieldV, faV, iaV, ixV, ldC, ldV, stV, D.cells, putAt, bxV, alV, bldD, placesOf, allSized, bdV, bsV, rowsD, mkV, bdN, slV, newsP, TD.notInt, TD.agg, azV, clrV, cpyV, cpV, lenV, minV, maxV, ncV, exV, condV, retV, thenQ, blockQ, Value.oneCell', forall_const, true_implies, ne_eq, reduceCtorEq, false_implies, eq_self, if_true, if_false, ↓reduceIte, Nat.reduceEqDiff, Int.reduceLE, Int.reduceLT, Int.reduceNeg, Int.reduceToNat, Nat.reduceAdd, Nat.reduceMul, Nat.reduceLeDiff, Nat.reduceMod, Nat.reduceSub, Int.reduceEq, Int.reduceNe, Int.reduceAdd, Int.reduceSub, Int.reduceMul, implies_true, wdf_fr, wdf_H, wdf_df, wdf_withH, thenQ_n, thenQ_r, blockQ_n, blockQ_r, roundQ_n, roundQ_r, noGotoQ_n, noGotoQ_r, noGotoQ_e, vcDS, vcWS, gdY, calmOp, St.out, Heap.add_none, Heap.add_upd, disj_upd_iff, disj_none_eq, Option.some.injEq, or_true, true_or, or_false, false_or, ↓calmEq, ↓wildEq, hOf, fzOp, Bool.false_and, isWild, wildOp, St.outW, fs]; exact h) : P := h hq
theorem tS {cx : Cx} {id : Nat} {ops : List Oper} {Q : Exit → St → Prop} {s : St} (h : ∀ N : St → Prop, (∀ s, Q .normal s → N s) → vcOpsS cx ops.toArray (nQ N) ops s) (hok : okOps cx.n ops = true := by kernel_rfl) : W cx (.region id ops.toArray false) Q s := W_opsE hok h
theorem tT {cx : Cx} {id : Nat} {ops : List Oper} {Q : Exit → St → Prop} {s : St} (h : ∀ N : St → Prop, (∀ s, Q .normal s → N s) → vcOpsT cx ops.toArray (nQ N) ops s) (hok : okOps cx.n ops = true := by kernel_rfl) : W cx (.region id ops.toArray false) Q s := W_opsO hok h
theorem dmN {P : Prop} (h : ∀ N : St → Prop, (∀ s, N s → N s) → P) : P := h (fun _ => True) fun _ h => h
theorem tq {F P Q : Prop} (fs : F) (hq : Q) (h : F → Q → P := by
  intro fs h
  (repeat (first | (refine hG1 _ ?_; try clear hG1 G1) | (refine hN1 _ ?_; try clear hN1 N1) | refine hGx _ ?_ | refine hNx _ ?_ | refine W_skip ?_ | refine W_exit ?_ | refine W_ret ?_ | refine W_label ?_ | refine W_scope ?_ | refine W_block ?_ | refine W_seq ?_ | ((first | refine tS fun N1 hN1 => ?_ | refine WL_gE rfl rfl (by kernel_rfl) (by kernel_rfl) fun G1 hG1 => ?_ | refine vcOpsS_sound (by kernel_rfl) ?_ | refine W_ifE fun A1 B1 hA1 hB1 => ?_); refine evT ?_; (first | (refine hG1 _ ?_; try clear hG1 G1) | (refine hN1 _ ?_; try clear hN1 N1) | refine hGx _ ?_ | refine hNx _ ?_ | (refine hA1 ?_; try clear hA1 hB1 A1 B1) | (refine hB1 ?_; try clear hA1 hB1 A1 B1) | skip))))
  (first | (revert hG1; revert G1) | (have hG1 := hGx; revert hG1; generalize Gx = G1; revert G1) | refine dmN ?_)
  (first | (revert hN1; revert N1) | (have hN1 := hNx; revert hN1; generalize Nx = N1; revert N1) | refine dmN ?_)
  exact h) : P := h fs hq
theorem to {F P Q : Prop} (fs : F) (hq : Q) (h : F → Q → P := by
  intro fs h
  (repeat (first | (refine hG1 _ ?_; try clear hG1 G1) | (refine hN1 _ ?_; try clear hN1 N1) | refine hGx _ ?_ | refine hNx _ ?_ | refine W_skip ?_ | refine W_exit ?_ | refine W_ret ?_ | refine W_label ?_ | refine W_scope ?_ | refine W_block ?_ | refine W_seq ?_ | ((first | refine tT fun N1 hN1 => ?_ | refine WL_gO rfl rfl (by kernel_rfl) (by kernel_rfl) fun G1 hG1 => ?_ | refine vcOpsT_sound (by kernel_rfl) ?_ | refine W_ifE fun A1 B1 hA1 hB1 => ?_); refine evT ?_; (first | (refine hG1 _ ?_; try clear hG1 G1) | (refine hN1 _ ?_; try clear hN1 N1) | refine hGx _ ?_ | refine hNx _ ?_ | (refine hA1 ?_; try clear hA1 hB1 A1 B1) | (refine hB1 ?_; try clear hA1 hB1 A1 B1) | skip))))
  (first | (revert hG1; revert G1) | (have hG1 := hGx; revert hG1; generalize Gx = G1; revert G1) | refine dmN ?_)
  (first | (revert hN1; revert N1) | (have hN1 := hNx; revert hN1; generalize Nx = N1; revert N1) | refine dmN ?_)
  exact h) : P := h fs hq
theorem dst {F P Q : Prop} (fs : F) (hq : Q) (h : F → Q → P := by
  intro fs h
  (repeat ((first | refine vcD_g rfl rfl fun G1 hG1 => ?_ | refine vcDS_to ?_); refine evD ?_; (first | (refine hG1 _ ?_; try clear hG1 G1) | (refine hN1 _ ?_; try clear hN1 N1) | refine hGx _ ?_ | refine hNx _ ?_ | skip)))
  (first | (revert hG1; revert G1) | (have hG1 := hGx; revert hG1; generalize Gx = G1; revert G1) | refine dmN ?_)
  (first | (revert hN1; revert N1) | (have hN1 := hNx; revert hN1; generalize Nx = N1; revert N1) | refine dmN ?_)
  exact h) : P := h fs hq
structure Hd (P : Prop) : Prop where
  out : P
theorem rt {F X P : Prop} {R Q : Exit → St → Prop} (hret : ∀ e s, e = .normal ∨ e = .ret → s.df = [] → R e s → Q e s) (fs : F) (hx : X) (h : (∀ e s, e = .normal ∨ e = .ret → s.df = [] → R e s → Q e s) → F → Hd X → P := by
  intro hret fs h
  (first | (show Q .ret _) | (show Q .normal _) | skip)
  refine hret _ _ (by first | exact .inr rfl | exact .inl rfl) (by first | rfl | assumption | (simp only [put_df, withH_df]; assumption)) ?_
  refine evT ?_
  exact h.out) : P := h hret fs ⟨hx⟩
theorem oz {F E P : Prop} {R Q : Exit → St → Prop} {H H' : Heap} (hret : ∀ e s, e = .normal ∨ e = .ret → s.df = [] → R e s → Q e s) (fs : F) (hle : H.le H') (e : E) (h : (∀ e s, e = .normal ∨ e = .ret → s.df = [] → R e s → Q e s) → F → H.le H' → E → P := by
  intro hret fs hle e
  (repeat (first | (refine hG1 _ ?_; try clear hG1 G1) | (refine hN1 _ ?_; try clear hN1 N1) | refine hGx _ ?_ | refine hNx _ ?_ | refine W_skip ?_ | refine W_exit ?_ | refine W_ret ?_ | refine W_label ?_ | refine W_scope ?_ | refine W_block ?_ | refine W_seq ?_ | ((first | refine tS fun N1 hN1 => ?_ | refine WL_gE rfl rfl (by kernel_rfl) (by kernel_rfl) fun G1 hG1 => ?_ | refine vcOpsS_sound (by kernel_rfl) ?_ | refine W_ifE fun A1 B1 hA1 hB1 => ?_); refine evT ?_; (first | (refine hG1 _ ?_; try clear hG1 G1) | (refine hN1 _ ?_; try clear hN1 N1) | refine hGx _ ?_ | refine hNx _ ?_ | (refine hA1 ?_; try clear hA1 hB1 A1 B1) | (refine hB1 ?_; try clear hA1 hB1 A1 B1) | skip))))
  (first | (show Q .ret _) | (show Q .normal _) | skip)
  refine hret _ _ (by first | exact .inr rfl | exact .inl rfl) (by first | rfl | assumption | (simp only [put_df, withH_df]; assumption)) ?_
  refine evT ?_
  exact ⟨_, Heap.le_refl _, hle, _, frz_refl hle, by (rw [e]; try rfl)⟩) : P := h hret fs hle e
def AtT (t : Nat) (P : Prop) : Prop := P
theorem frzAt {cx : Cx} {c : Code} {Q : Exit → St → Prop} {s : St} {t b o sz i k : Nat} {ty : TypeId} {els : List (List D)} {el : List D} (ht : s.fr t = .ep b o sz i k) (hb : s.H b = some (.row ty o sz els)) (hi : els[i]? = some el) (h : W cx c Q (s.frzp t b k el)) : AtT t (W cx c Q s) := W_frzp t ht hb hi h
theorem frz {P Q : Prop} {H : Heap} {b : Nat} (t : Nat) (hb : H b = Option.none) (hq : Q) (h : H b = Option.none → Q → AtT t P := by
  intro hb h
  refine frzAt rfl (Heap.upd_same _ _ _) rfl ?_
  simp only [St.frzp, put_H, wdf_H, withH_H, withH_put, wdf_withH, withH_withH, init_H, init_withH, Heap.del_upd_same, Heap.del_none hb, withH_self]
  exact h) : P := h hb hq
theorem cj2 {A0 A1 : Prop} (a0 : A0) (a1 : A1) : A0 ∧ A1 := ⟨a0, a1⟩
theorem cj3 {A0 A1 A2 : Prop} (a0 : A0) (a1 : A1) (a2 : A2) : A0 ∧ A1 ∧ A2 := ⟨a0, a1, a2⟩
theorem cj4 {A0 A1 A2 A3 : Prop} (a0 : A0) (a1 : A1) (a2 : A2) (a3 : A3) : A0 ∧ A1 ∧ A2 ∧ A3 := ⟨a0, a1, a2, a3⟩
theorem cj5 {A0 A1 A2 A3 A4 : Prop} (a0 : A0) (a1 : A1) (a2 : A2) (a3 : A3) (a4 : A4) : A0 ∧ A1 ∧ A2 ∧ A3 ∧ A4 := ⟨a0, a1, a2, a3, a4⟩
theorem cj6 {A0 A1 A2 A3 A4 A5 : Prop} (a0 : A0) (a1 : A1) (a2 : A2) (a3 : A3) (a4 : A4) (a5 : A5) : A0 ∧ A1 ∧ A2 ∧ A3 ∧ A4 ∧ A5 := ⟨a0, a1, a2, a3, a4, a5⟩
theorem cj7 {A0 A1 A2 A3 A4 A5 A6 : Prop} (a0 : A0) (a1 : A1) (a2 : A2) (a3 : A3) (a4 : A4) (a5 : A5) (a6 : A6) : A0 ∧ A1 ∧ A2 ∧ A3 ∧ A4 ∧ A5 ∧ A6 := ⟨a0, a1, a2, a3, a4, a5, a6⟩
theorem cj8 {A0 A1 A2 A3 A4 A5 A6 A7 : Prop} (a0 : A0) (a1 : A1) (a2 : A2) (a3 : A3) (a4 : A4) (a5 : A5) (a6 : A6) (a7 : A7) : A0 ∧ A1 ∧ A2 ∧ A3 ∧ A4 ∧ A5 ∧ A6 ∧ A7 := ⟨a0, a1, a2, a3, a4, a5, a6, a7⟩
theorem cj9 {A0 A1 A2 A3 A4 A5 A6 A7 A8 : Prop} (a0 : A0) (a1 : A1) (a2 : A2) (a3 : A3) (a4 : A4) (a5 : A5) (a6 : A6) (a7 : A7) (a8 : A8) : A0 ∧ A1 ∧ A2 ∧ A3 ∧ A4 ∧ A5 ∧ A6 ∧ A7 ∧ A8 := ⟨a0, a1, a2, a3, a4, a5, a6, a7, a8⟩
theorem cj10 {A0 A1 A2 A3 A4 A5 A6 A7 A8 A9 : Prop} (a0 : A0) (a1 : A1) (a2 : A2) (a3 : A3) (a4 : A4) (a5 : A5) (a6 : A6) (a7 : A7) (a8 : A8) (a9 : A9) : A0 ∧ A1 ∧ A2 ∧ A3 ∧ A4 ∧ A5 ∧ A6 ∧ A7 ∧ A8 ∧ A9 := ⟨a0, a1, a2, a3, a4, a5, a6, a7, a8, a9⟩
theorem cj11 {A0 A1 A2 A3 A4 A5 A6 A7 A8 A9 A10 : Prop} (a0 : A0) (a1 : A1) (a2 : A2) (a3 : A3) (a4 : A4) (a5 : A5) (a6 : A6) (a7 : A7) (a8 : A8) (a9 : A9) (a10 : A10) : A0 ∧ A1 ∧ A2 ∧ A3 ∧ A4 ∧ A5 ∧ A6 ∧ A7 ∧ A8 ∧ A9 ∧ A10 := ⟨a0, a1, a2, a3, a4, a5, a6, a7, a8, a9, a10⟩
theorem cj12 {A0 A1 A2 A3 A4 A5 A6 A7 A8 A9 A10 A11 : Prop} (a0 : A0) (a1 : A1) (a2 : A2) (a3 : A3) (a4 : A4) (a5 : A5) (a6 : A6) (a7 : A7) (a8 : A8) (a9 : A9) (a10 : A10) (a11 : A11) : A0 ∧ A1 ∧ A2 ∧ A3 ∧ A4 ∧ A5 ∧ A6 ∧ A7 ∧ A8 ∧ A9 ∧ A10 ∧ A11 := ⟨a0, a1, a2, a3, a4, a5, a6, a7, a8, a9, a10, a11⟩
theorem cj13 {A0 A1 A2 A3 A4 A5 A6 A7 A8 A9 A10 A11 A12 : Prop} (a0 : A0) (a1 : A1) (a2 : A2) (a3 : A3) (a4 : A4) (a5 : A5) (a6 : A6) (a7 : A7) (a8 : A8) (a9 : A9) (a10 : A10) (a11 : A11) (a12 : A12) : A0 ∧ A1 ∧ A2 ∧ A3 ∧ A4 ∧ A5 ∧ A6 ∧ A7 ∧ A8 ∧ A9 ∧ A10 ∧ A11 ∧ A12 := ⟨a0, a1, a2, a3, a4, a5, a6, a7, a8, a9, a10, a11, a12⟩
theorem cj14 {A0 A1 A2 A3 A4 A5 A6 A7 A8 A9 A10 A11 A12 A13 : Prop} (a0 : A0) (a1 : A1) (a2 : A2) (a3 : A3) (a4 : A4) (a5 : A5) (a6 : A6) (a7 : A7) (a8 : A8) (a9 : A9) (a10 : A10) (a11 : A11) (a12 : A12) (a13 : A13) : A0 ∧ A1 ∧ A2 ∧ A3 ∧ A4 ∧ A5 ∧ A6 ∧ A7 ∧ A8 ∧ A9 ∧ A10 ∧ A11 ∧ A12 ∧ A13 := ⟨a0, a1, a2, a3, a4, a5, a6, a7, a8, a9, a10, a11, a12, a13⟩
theorem cj15 {A0 A1 A2 A3 A4 A5 A6 A7 A8 A9 A10 A11 A12 A13 A14 : Prop} (a0 : A0) (a1 : A1) (a2 : A2) (a3 : A3) (a4 : A4) (a5 : A5) (a6 : A6) (a7 : A7) (a8 : A8) (a9 : A9) (a10 : A10) (a11 : A11) (a12 : A12) (a13 : A13) (a14 : A14) : A0 ∧ A1 ∧ A2 ∧ A3 ∧ A4 ∧ A5 ∧ A6 ∧ A7 ∧ A8 ∧ A9 ∧ A10 ∧ A11 ∧ A12 ∧ A13 ∧ A14 := ⟨a0, a1, a2, a3, a4, a5, a6, a7, a8, a9, a10, a11, a12, a13, a14⟩
theorem cj16 {A0 A1 A2 A3 A4 A5 A6 A7 A8 A9 A10 A11 A12 A13 A14 A15 : Prop} (a0 : A0) (a1 : A1) (a2 : A2) (a3 : A3) (a4 : A4) (a5 : A5) (a6 : A6) (a7 : A7) (a8 : A8) (a9 : A9) (a10 : A10) (a11 : A11) (a12 : A12) (a13 : A13) (a14 : A14) (a15 : A15) : A0 ∧ A1 ∧ A2 ∧ A3 ∧ A4 ∧ A5 ∧ A6 ∧ A7 ∧ A8 ∧ A9 ∧ A10 ∧ A11 ∧ A12 ∧ A13 ∧ A14 ∧ A15 := ⟨a0, a1, a2, a3, a4, a5, a6, a7, a8, a9, a10, a11, a12, a13, a14, a15⟩
theorem cj17 {A0 A1 A2 A3 A4 A5 A6 A7 A8 A9 A10 A11 A12 A13 A14 A15 A16 : Prop} (a0 : A0) (a1 : A1) (a2 : A2) (a3 : A3) (a4 : A4) (a5 : A5) (a6 : A6) (a7 : A7) (a8 : A8) (a9 : A9) (a10 : A10) (a11 : A11) (a12 : A12) (a13 : A13) (a14 : A14) (a15 : A15) (a16 : A16) : A0 ∧ A1 ∧ A2 ∧ A3 ∧ A4 ∧ A5 ∧ A6 ∧ A7 ∧ A8 ∧ A9 ∧ A10 ∧ A11 ∧ A12 ∧ A13 ∧ A14 ∧ A15 ∧ A16 := ⟨a0, a1, a2, a3, a4, a5, a6, a7, a8, a9, a10, a11, a12, a13, a14, a15, a16⟩
theorem cj18 {A0 A1 A2 A3 A4 A5 A6 A7 A8 A9 A10 A11 A12 A13 A14 A15 A16 A17 : Prop} (a0 : A0) (a1 : A1) (a2 : A2) (a3 : A3) (a4 : A4) (a5 : A5) (a6 : A6) (a7 : A7) (a8 : A8) (a9 : A9) (a10 : A10) (a11 : A11) (a12 : A12) (a13 : A13) (a14 : A14) (a15 : A15) (a16 : A16) (a17 : A17) : A0 ∧ A1 ∧ A2 ∧ A3 ∧ A4 ∧ A5 ∧ A6 ∧ A7 ∧ A8 ∧ A9 ∧ A10 ∧ A11 ∧ A12 ∧ A13 ∧ A14 ∧ A15 ∧ A16 ∧ A17 := ⟨a0, a1, a2, a3, a4, a5, a6, a7, a8, a9, a10, a11, a12, a13, a14, a15, a16, a17⟩
theorem cj20 {A0 A1 A2 A3 A4 A5 A6 A7 A8 A9 A10 A11 A12 A13 A14 A15 A16 A17 A18 A19 : Prop} (a0 : A0) (a1 : A1) (a2 : A2) (a3 : A3) (a4 : A4) (a5 : A5) (a6 : A6) (a7 : A7) (a8 : A8) (a9 : A9) (a10 : A10) (a11 : A11) (a12 : A12) (a13 : A13) (a14 : A14) (a15 : A15) (a16 : A16) (a17 : A17) (a18 : A18) (a19 : A19) : A0 ∧ A1 ∧ A2 ∧ A3 ∧ A4 ∧ A5 ∧ A6 ∧ A7 ∧ A8 ∧ A9 ∧ A10 ∧ A11 ∧ A12 ∧ A13 ∧ A14 ∧ A15 ∧ A16 ∧ A17 ∧ A18 ∧ A19 := ⟨a0, a1, a2, a3, a4, a5, a6, a7, a8, a9, a10, a11, a12, a13, a14, a15, a16, a17, a18, a19⟩
theorem cj22 {A0 A1 A2 A3 A4 A5 A6 A7 A8 A9 A10 A11 A12 A13 A14 A15 A16 A17 A18 A19 A20 A21 : Prop} (a0 : A0) (a1 : A1) (a2 : A2) (a3 : A3) (a4 : A4) (a5 : A5) (a6 : A6) (a7 : A7) (a8 : A8) (a9 : A9) (a10 : A10) (a11 : A11) (a12 : A12) (a13 : A13) (a14 : A14) (a15 : A15) (a16 : A16) (a17 : A17) (a18 : A18) (a19 : A19) (a20 : A20) (a21 : A21) : A0 ∧ A1 ∧ A2 ∧ A3 ∧ A4 ∧ A5 ∧ A6 ∧ A7 ∧ A8 ∧ A9 ∧ A10 ∧ A11 ∧ A12 ∧ A13 ∧ A14 ∧ A15 ∧ A16 ∧ A17 ∧ A18 ∧ A19 ∧ A20 ∧ A21 := ⟨a0, a1, a2, a3, a4, a5, a6, a7, a8, a9, a10, a11, a12, a13, a14, a15, a16, a17, a18, a19, a20, a21⟩
theorem cj24 {A0 A1 A2 A3 A4 A5 A6 A7 A8 A9 A10 A11 A12 A13 A14 A15 A16 A17 A18 A19 A20 A21 A22 A23 : Prop} (a0 : A0) (a1 : A1) (a2 : A2) (a3 : A3) (a4 : A4) (a5 : A5) (a6 : A6) (a7 : A7) (a8 : A8) (a9 : A9) (a10 : A10) (a11 : A11) (a12 : A12) (a13 : A13) (a14 : A14) (a15 : A15) (a16 : A16) (a17 : A17) (a18 : A18) (a19 : A19) (a20 : A20) (a21 : A21) (a22 : A22) (a23 : A23) : A0 ∧ A1 ∧ A2 ∧ A3 ∧ A4 ∧ A5 ∧ A6 ∧ A7 ∧ A8 ∧ A9 ∧ A10 ∧ A11 ∧ A12 ∧ A13 ∧ A14 ∧ A15 ∧ A16 ∧ A17 ∧ A18 ∧ A19 ∧ A20 ∧ A21 ∧ A22 ∧ A23 := ⟨a0, a1, a2, a3, a4, a5, a6, a7, a8, a9, a10, a11, a12, a13, a14, a15, a16, a17, a18, a19, a20, a21, a22, a23⟩
theorem cj25 {A0 A1 A2 A3 A4 A5 A6 A7 A8 A9 A10 A11 A12 A13 A14 A15 A16 A17 A18 A19 A20 A21 A22 A23 A24 : Prop} (a0 : A0) (a1 : A1) (a2 : A2) (a3 : A3) (a4 : A4) (a5 : A5) (a6 : A6) (a7 : A7) (a8 : A8) (a9 : A9) (a10 : A10) (a11 : A11) (a12 : A12) (a13 : A13) (a14 : A14) (a15 : A15) (a16 : A16) (a17 : A17) (a18 : A18) (a19 : A19) (a20 : A20) (a21 : A21) (a22 : A22) (a23 : A23) (a24 : A24) : A0 ∧ A1 ∧ A2 ∧ A3 ∧ A4 ∧ A5 ∧ A6 ∧ A7 ∧ A8 ∧ A9 ∧ A10 ∧ A11 ∧ A12 ∧ A13 ∧ A14 ∧ A15 ∧ A16 ∧ A17 ∧ A18 ∧ A19 ∧ A20 ∧ A21 ∧ A22 ∧ A23 ∧ A24 := ⟨a0, a1, a2, a3, a4, a5, a6, a7, a8, a9, a10, a11, a12, a13, a14, a15, a16, a17, a18, a19, a20, a21, a22, a23, a24⟩
end Go.Proofs.YtgfhgeelfaalmaaGreatDoor
