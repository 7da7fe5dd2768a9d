/- A program logic over descriptions of values. Part 2: states, what a piece of code must achieve, the rules of the control structures, functions. -/
import Derived.Test.YtdcnpkpibbefhaaL1
import Derived.TacticsIn
namespace Go.Proofs.Ytdcnpkpibbefhaa
open Go.RowKit
set_option linter.unusedVariables false

/-- The fence that lets all by, within a round or not. -/
def FR (ro : Option Nat) : Fence := { Fence.wide with round := ro }
theorem FR_none : FR none = Fence.wide := rfl
theorem callsIn_FR {ro : Option Nat} {n : Nat} {P : Program} {f : FuncId} {args : Array Value} {w : World} {R : Ending → World → Prop} (h : Calls P f args w R) : CallsIn (FR ro) n P f args w R :=
  (callsIn_wide (n := n)).2 h
theorem calls_of_FR {ro : Option Nat} {n : Nat} {P : Program} {f : FuncId} {args : Array Value} {w : World} {R : Ending → World → Prop} (h : CallsIn (FR ro) n P f args w R) : Calls P f args w R :=
  (callsIn_wide (n := n)).1 h

/-- What is known of an activation: its temporaries, its own blocks, its deferred marks. -/
structure St where
  fr : Nat → D
  H : Heap
  df : List Deferred
def St.put (s : St) (dst : Option Tmp) (d : D) : St :=
  match dst with
  | some t => { s with fr := fun x => if x = t then d else s.fr x }
  | none => s
def D.ofV : Value → D
  | .agg cs => if cs.toList.all Value.oneCell' then .agg (cs.toList.map .val) else .val (.agg cs)
  | v => .val v
def St.ev (s : St) : Operand → D
  | .tmp t => s.fr t
  | .const v => D.ofV v
  | .global g => .val (.pointer (some ⟨g, 0, none⟩))
  | .func f => .fn f []
def St.withH (s : St) (H : Heap) : St := { s with H := H }
/-- The activation: the program, the round, the count of temporaries, where it began. -/
structure Cx where
  P : Program
  ro : Option Nat
  n : Nat
  H0 : Heap
  w0 : World
structure Match (cx : Cx) (s : St) (a : Act) (w : World) : Prop where
  n : a.tmps.size = cx.n
  df : a.defers = s.df
  fr : ∀ t, D.is w s.H.others (s.fr t) (a.tmps.getD t undef)
  H : HOk w s.H
  ev : Ev cx.H0 cx.w0 s.H w
def QQ (cx : Cx) (Q : Exit → St → Prop) : Exit → Act → World → Prop := fun e a w => ∃ s, Match cx s a w ∧ Q e s
def KK (cx : Cx) (K : St → Prop) : Act → World → Prop := fun a w => ∃ s, Match cx s a w ∧ K s
/-- The code, from state s, ends as Q says. -/
def W (cx : Cx) (c : Code) (Q : Exit → St → Prop) (s : St) : Prop :=
  ∀ a w, Match cx s a w → c.wpIn (FR cx.ro) 9 cx.P (QQ cx Q) a w
/-- The operations, one by one. -/
def WL (cx : Cx) (ops : Array Oper) (l : List Oper) (Q : Exit → St → Prop) (s : St) : Prop :=
  ∀ a w, Match cx s a w → wpListIn (FR cx.ro) 9 cx.P ops (QQ cx Q) l a w
def NoQ : Exit → Act → World → Prop := fun _ _ _ => False
/-- One operation. -/
def WO (cx : Cx) (o : Oper) (K : St → Prop) (s : St) : Prop :=
  ∀ a w, Match cx s a w → o.wpIn (FR cx.ro) 9 cx.P a w (KK cx K) NoQ

theorem cellsAll_vals' {w : World} {S : Nat → Prop} : ∀ (vs : List Value), (∀ v ∈ vs, v.oneCell' = true) → cellsAll w S (vs.map .val) vs
  | [], _ => by simp [cellsAll]
  | v :: vs, h => by
    simp only [List.map_cons, cellsAll, D.is]
    exact ⟨v, vs, rfl, h v (by simp), rfl, cellsAll_vals' vs fun u hu => h u (by simp [hu])⟩
theorem D.ofV_is {w : World} {S : Nat → Prop} (v : Value) : D.is w S (D.ofV v) v := by
  cases v with
  | agg cs =>
    simp only [D.ofV]
    split
    · rename_i h
      simp only [D.is]
      exact ⟨cs.toList, by simp, cellsAll_vals' _ (fun v hv => (List.all_eq_true.1 h) v hv)⟩
    · simp only [D.is]
  | _ => simp only [D.ofV, D.is]
theorem Match.ev_ {cx : Cx} {s : St} {a : Act} {w : World} (m : Match cx s a w) (x : Operand) : D.is w s.H.others (s.ev x) (a.eval x) := by
  cases x with
  | tmp t => exact m.fr t
  | const v => exact D.ofV_is v
  | global g => simp only [St.ev, Act.eval, D.is]
  | func f => simp only [St.ev, Act.eval, D.is, valsAll]; exact ⟨[], rfl, rfl⟩
/-- The world goes on: the state's descriptions stand. -/
theorem Match.go {cx : Cx} {s : St} {a : Act} {w : World} (m : Match cx s a w) {H' : Heap} {w' : World} (h : Ev s.H w H' w') (hH : HOk w' H') : Match cx (s.withH H') a w' :=
  ⟨m.n, m.df, fun t => D.is_keep h.kept _ (m.fr t), hH, m.ev.trans h⟩
theorem Match.less {cx : Cx} {s : St} {a : Act} {w : World} (m : Match cx s a w) {H' : Heap} (h : H'.le s.H) : Match cx (s.withH H') a w :=
  ⟨m.n, m.df, fun t => D.is_keep (Kept.less h w) _ (m.fr t), fun b x hb => by
    have h0 := m.H b x (h _ _ hb)
    cases x with
    | row t o sz els =>
      obtain ⟨cs, fr, h1, h2, h3, h4⟩ := h0
      refine ⟨cs, fr, h1, h2, h3, ?_⟩
      exact rowsAt_own h w b sz els h4
    | map mm =>
      obtain ⟨es, c, h1, h2, h3⟩ := h0
      exact ⟨es, c, h1, h2, valsAll_keep (Kept.less h w) _ h3⟩
    | hid => exact h0, m.ev.less h⟩
where
  cellsAt_own {H H' : Heap} (h : H'.le H) (w : World) (b : Nat) : ∀ (ds : List D) {o : Nat}, cellsAt w H.others b o ds → cellsAt w H'.others b o ds
    | [], _, _ => by simp only [cellsAt]
    | d :: ds, o, h0 => by
      simp only [cellsAt] at h0 ⊢
      obtain ⟨⟨u, h1, h2, h3⟩, h4⟩ := h0
      exact ⟨⟨u, h1, h2, D.is_keep (Kept.less h w) d h3⟩, cellsAt_own h w b ds h4⟩
  rowsAt_own {H H' : Heap} (h : H'.le H) (w : World) (b sz : Nat) : ∀ (els : List (List D)) {o : Nat}, rowsAt w H.others b sz o els → rowsAt w H'.others b sz o els
    | [], _, _ => by simp only [rowsAt]
    | el :: els, o, h0 => by
      simp only [rowsAt] at h0 ⊢
      exact ⟨h0.1, cellsAt_own h w b el h0.2.1, rowsAt_own h w b sz els h0.2.2⟩
theorem getD_set {α : Type} (l : Array α) (i j : Nat) (x d : α) (hi : i < l.size) : (l.setIfInBounds i x).getD j d = if j = i then x else l.getD j d := by
  simp only [Array.getD_eq_getD_getElem?, Array.getElem?_setIfInBounds]
  by_cases h : j = i
  · subst h; simp [hi]
  · rw [if_neg (fun e => h e.symm), if_neg h]
theorem Match.put {cx : Cx} {s : St} {a : Act} {w : World} (m : Match cx s a w) {dst : Option Tmp} {d : D} {v : Value} (hd : ∀ t, dst = some t → t < cx.n) (h : D.is w s.H.others d v) : Match cx (s.put dst d) (a.put dst v) w := by
  cases dst with
  | none => exact m
  | some t =>
    refine ⟨by simpa [Act.put] using m.n, m.df, fun x => ?_, m.H, m.ev⟩
    have ht : t < a.tmps.size := by rw [m.n]; exact hd t rfl
    simp only [Act.put, St.put]
    rw [getD_set _ _ _ _ _ ht]
    by_cases hx : x = t
    · rw [if_pos hx, if_pos hx]; exact h
    · rw [if_neg hx, if_neg hx]; exact m.fr x

section rules
variable {cx : Cx} {Q Q' : Exit → St → Prop} {s : St}
theorem W_mono {c : Code} (h : W cx c Q s) (hq : ∀ e s, Q e s → Q' e s) : W cx c Q' s := fun a w m =>
  wpIn_mono (h a w m) fun e _ _ ⟨s', m', q⟩ => ⟨s', m', hq e s' q⟩
theorem W_less {c : Code} (H' : Heap) (h' : H'.le s.H) (h : W cx c Q (s.withH H')) : W cx c Q s := fun a w m => h a w (m.less h')
theorem W_skip (h : Q .normal s) : W cx .skip Q s := fun _ _ m => wpIn_skip ⟨s, m, h⟩
theorem W_label {l : Nat} (h : Q .normal s) : W cx (.label l) Q s := fun _ _ m => wpIn_label ⟨s, m, h⟩
theorem W_exit {id : Nat} (h : Q (.exit id) s) : W cx (.exit id) Q s := fun _ _ m => wpIn_exit ⟨s, m, h⟩
theorem W_goto {l : Nat} (h : Q (.goto l) s) : W cx (.goto l) Q s := fun _ _ m => wpIn_goto ⟨s, m, h⟩
theorem W_ret (h : Q .ret s) : W cx .ret Q s := fun _ _ m => wpIn_ret ⟨s, m, h⟩
/-- The rest of the way, where the first part ends plainly. -/
def thenQ (N : St → Prop) (Q : Exit → St → Prop) : Exit → St → Prop
  | .normal, s => N s
  | e, s => Q e s
theorem W_seq {x y : Code} (h : W cx x (thenQ (W cx y Q) Q) s) : W cx (.seq x y) Q s := fun a w m =>
  wpIn_seq (wpIn_mono (h a w m) fun e a' w' ⟨s', m', q⟩ => by
    cases e <;> first
      | exact q a' w' m'
      | exact ⟨s', m', q⟩)
def blockQ (id : Nat) (Q : Exit → St → Prop) : Exit → St → Prop
  | .exit id', s => if id' = id then Q .normal s else Q (.exit id') s
  | e, s => Q e s
theorem W_block {id : Nat} {c : Code} (h : W cx c (blockQ id Q) s) : W cx (.block id c) Q s := fun a w m =>
  wpIn_block (wpIn_mono (h a w m) fun e a' w' ⟨s', m', q⟩ => by
    cases e with
    | exit id' =>
      simp only [blockQ] at q
      simp only [Exit.inBlock]
      by_cases hid : id' = id
      · rw [if_pos hid] at q ⊢; exact ⟨s', m', q⟩
      · rw [if_neg hid] at q ⊢; exact ⟨s', m', q⟩
    | _ => exact ⟨s', m', q⟩)
theorem W_cond {c : Operand} {x y : Code} (b : Bool) (hb : s.ev c = .val (.bool b)) (ht : b = true → W cx x Q s) (hf : b = false → W cx y Q s) : W cx (.cond c x y) Q s := fun a w m => by
  have h := m.ev_ c
  rw [hb] at h
  simp only [D.is] at h
  exact wpIn_cond_split h (fun e => ht e a w m) (fun e => hf e a w m)
theorem least (p : Nat → Prop) (h : ∃ k, p k) : ∃ k, p k ∧ ∀ j, p j → k ≤ j := by
  classical
  obtain ⟨k, hk⟩ := h
  induction k using Nat.strongRecOn with
  | _ k ih =>
    by_cases h : ∃ j, j < k ∧ p j
    · obtain ⟨j, hj, hp⟩ := h
      exact ih j hj hp
    · exact ⟨k, hk, fun j hj => by
        rcases Nat.lt_or_ge j k with hlt | hge
        · exact absurd ⟨j, hlt, hj⟩ h
        · exact hge⟩
/-- A loop: what holds at each round's head; what each round lowers. -/
theorem W_loop {c : Code} (I : St → Prop) (μ : St → Nat) (H' : Heap) (hle : H'.le s.H) (h0 : I (s.withH H'))
    (round : ∀ s, I s → W cx c (thenQ (fun s' => ∃ H', H'.le s'.H ∧ I (s'.withH H') ∧ μ (s'.withH H') < μ s) Q) s) : W cx (.loop c) Q s := fun a w m => by
  obtain ⟨f, hf⟩ : ∃ f : Act × World → Nat, ∀ x : Act × World, (∃ s, Match cx s x.1 x.2 ∧ I s) → (∃ s, Match cx s x.1 x.2 ∧ I s ∧ μ s = f x) ∧ ∀ s, Match cx s x.1 x.2 → I s → f x ≤ μ s := by
    refine ⟨fun x => Classical.epsilon fun k => (∃ s, Match cx s x.1 x.2 ∧ I s ∧ μ s = k) ∧ ∀ s, Match cx s x.1 x.2 → I s → k ≤ μ s, fun x ⟨s, h1, h2⟩ => ?_⟩
    refine Classical.epsilon_spec (p := fun k => (∃ s, Match cx s x.1 x.2 ∧ I s ∧ μ s = k) ∧ ∀ s, Match cx s x.1 x.2 → I s → k ≤ μ s) ?_
    obtain ⟨k, h3, h4⟩ := least (fun k => ∃ s, Match cx s x.1 x.2 ∧ I s ∧ μ s = k) ⟨_, s, h1, h2, rfl⟩
    exact ⟨k, h3, fun s h5 h6 => h4 _ ⟨s, h5, h6, rfl⟩⟩
  refine wpIn_loop (fun a w => ∃ s, Match cx s a w ∧ I s) (fun a w => f (a, w)) ⟨_, m.less hle, h0⟩ ?_
  rintro a w hex
  obtain ⟨⟨s, m, hI, hμ⟩, _⟩ := hf (a, w) hex
  rw [← hμ]
  refine wpIn_mono (round s hI a w m) fun e a' w' ⟨s', m', q⟩ => ?_
  cases e with
  | normal =>
    obtain ⟨H2, h2, hI', hlt⟩ := q
    exact ⟨⟨_, m'.less h2, hI'⟩, Nat.lt_of_le_of_lt ((hf (a', w') ⟨_, m'.less h2, hI'⟩).2 _ (m'.less h2) hI') hlt⟩
  | _ => exact ⟨s', m', q⟩
theorem W_region {id : Nat} {ops : List Oper} (h : WL cx ops.toArray ops Q s) : W cx (.region id ops.toArray false) Q s := fun a w m => wpIn_region_lit (h a w m)
theorem WL_nil {ops : Array Oper} (h : Q .normal s) : WL cx ops [] Q s := fun _ _ m => ⟨s, m, h⟩
theorem WO_mono {o : Oper} {K K' : St → Prop} (h : WO cx o K s) (hk : ∀ s, K s → K' s) : WO cx o K' s := fun a w m =>
  Oper.wpIn_mono (fun _ _ ⟨s', m', q⟩ => ⟨s', m', hk s' q⟩) (h a w m)
theorem wpIn_anyQ {F : Fence} {n : Nat} {P : Program} {o : Oper} {a : Act} {w : World} {K : Act → World → Prop} {Q : Exit → Act → World → Prop} (h : o.wpIn F n P a w K NoQ) : o.wpIn F n P a w K Q := by
  unfold Oper.wpIn at *
  refine ⟨h.1, ?_⟩
  have h2 := h.2
  generalize (o.semAt F.round a.eval).run P w = r at *
  cases r with
  | ok x w' =>
    cases x <;> simp only [Oper.uponIn] at h2 ⊢ <;>
      first
        | exact h2
        | exact ⟨h2.1, CallsIn.mono h2.2 (fun e w'' he => by cases e <;> first | exact he | exact he.elim | (obtain ⟨_, _, hf⟩ := he; exact hf.elim))⟩
        | exact ⟨h2.1, RoundIn.mono h2.2 (fun e w'' he => by cases e <;> first | exact he | exact he.elim | (obtain ⟨_, _, hf⟩ := he; exact hf.elim))⟩
  | halt x w' => cases x <;> simp only [Oper.uponIn] at h2 ⊢ <;> first | exact h2 | exact h2.elim
/-- An operation, and the rest. -/
theorem WL_cons {ops : Array Oper} {o : Oper} {rest : List Oper} (hg : o.guard = none) (h : WO cx o (WL cx ops rest Q) s) : WL cx ops (o :: rest) Q s := fun a w m => by
  refine wpListIn_plain hg fun K hK => ?_
  exact Oper.wpIn_mono (fun a' w' ⟨s', m', q⟩ => hK _ _ (q a' w' m')) (wpIn_anyQ (h a w m))
/-- The temporary of an operation of the region. -/
def dstOf (ops : Array Oper) (j : Nat) : Option Tmp := (ops[j]?).bind (·.dst)
theorem about_FR {ro : Option Nat} {P : Program} {o : Oper} {a : Act} {w : World} : ∀ f, o.about P w a.eval = some f → (FR ro).fn f := fun _ _ => trivial
/-- A guarded operation. -/
theorem WL_guard {ops : Array Oper} {o : Oper} {rest : List Oper} {j : Nat} {want : Bool} {t : Tmp} (hg : o.guard = some (j, want)) (hj : dstOf ops j = some t) (ht : t < cx.n) (hd : ∀ t, o.dst = some t → t < cx.n)
    (h : (∃ b, s.fr t = .val (.bool b) ∧ (b = want → WO cx o (WL cx ops rest Q) s) ∧ (b = !want → WL cx ops rest Q (s.put o.dst (.val undef)))) ∨ (s.fr t = .val undef ∧ WL cx ops rest Q (s.put o.dst (.val undef)))) : WL cx ops (o :: rest) Q s := fun a w m => by
  refine wpListIn_step fun K hK => ?_
  have hy : yielded ops a.tmps j = match a.tmps[t]? with | some (.bool b) => some b | _ => none := by
    unfold yielded
    unfold dstOf at hj
    rw [hj]
    rfl
  have hta : t < a.tmps.size := by rw [m.n]; exact ht
  have hgt : a.tmps[t]? = some (a.tmps.getD t undef) := by simp [hta]
  have hf := m.fr t
  have hwt : Region.wanted o (yielded ops a.tmps) = (yielded ops a.tmps j == some want) := by unfold Region.wanted; rw [hg]
  rcases h with ⟨b, hb, h1, h2⟩ | ⟨hb, h2⟩
  · rw [hb] at hf
    simp only [D.is] at hf
    rw [hgt, hf] at hy
    simp only at hy
    rw [hy] at hwt
    by_cases e : b = want
    · subst e
      rw [if_pos (by rw [hwt]; simp)]
      exact Oper.wpIn_mono (fun a' w' ⟨s', m', q⟩ => hK _ _ (q a' w' m')) (wpIn_anyQ (h1 rfl a w m))
    · have e2 : b = !want := by cases b <;> cases want <;> first | rfl | exact absurd rfl e
      have e3 : (some b == some want) = false := by cases b <;> cases want <;> first | rfl | exact absurd rfl e
      rw [if_neg (by rw [hwt, e3]; simp)]
      refine ⟨about_FR, hK _ _ (h2 e2 _ _ (m.put hd ?_))⟩
      simp only [D.is]
  · rw [hb] at hf
    simp only [D.is] at hf
    rw [hgt, hf] at hy
    simp only [undef] at hy
    rw [hy] at hwt
    rw [if_neg (by rw [hwt]; simp)]
    refine ⟨about_FR, hK _ _ (h2 _ _ (m.put hd ?_))⟩
    simp only [D.is]
end rules

/-- A function's contract over descriptions: called with values as ds say, it returns, and the result and the own blocks are as K says. -/
def Entr (P : Program) (f : FuncId) : Prop := ∀ (args : Array Value) (w : World), (callFunc f args).run P w = .ok (.enter f args) w
theorem ent_of {P : Program} {f : FuncId} {fn : Func} {c : Code} (hf : P.funcs[f]? = some fn) (hname : (fn.name == "runtime.NumGoroutine") = false) (hb : fn.body = some c) : Entr P f := by
  intro args w
  have h1 : fn.name ≠ "runtime.NumGoroutine" := by simpa using hname
  simp [callFunc, hf, h1, hb, mark]
def Does (P : Program) (f : FuncId) (ds : List D) (H : Heap) (K : D → Heap → Prop) : Prop :=
  Entr P f ∧ ∀ (w : World) (vs : List Value), valsAll w H.others ds vs → HOk w H → Calls P f vs.toArray w fun e w' => ∃ v d H', e = .returned v ∧ D.is w' H'.others d v ∧ HOk w' H' ∧ Ev H w H' w' ∧ K d H'
theorem Does.mono {P : Program} {f : FuncId} {ds : List D} {H : Heap} {K K' : D → Heap → Prop} (h : Does P f ds H K) (hk : ∀ d H', K d H' → K' d H') : Does P f ds H K' := And.intro h.1 fun w vs h1 h2 =>
  (h.2 w vs h1 h2).mono fun _ _ ⟨v, d, H', a, b, c, e, k⟩ => ⟨v, d, H', a, b, c, e, hk _ _ k⟩
/-- The frame of a call's beginning. -/
def St.init (ds : List D) (H : Heap) : St := ⟨fun t => ds.getD t (.val undef), H, []⟩
/-- The results that a function hands back from state s. -/
def ResIs (cx : Cx) (fn : Func) (s : St) (K : D → Heap → Prop) : Prop :=
  ∀ a w, Match cx s a w → ∃ v d H', (results fn a.tmps).run cx.P w = .ok v w ∧ D.is w H'.others d v ∧ H'.le s.H ∧ K d H'
theorem valsAll_length {w : World} {S : Nat → Prop} : ∀ {ds : List D} {vs : List Value}, valsAll w S ds vs → vs.length = ds.length
  | [], _, h => by simp only [valsAll] at h; subst h; rfl
  | d :: ds, vs, h => by
    simp only [valsAll] at h
    obtain ⟨u, us, rfl, _, h⟩ := h
    simp [valsAll_length h]
theorem valsAll_get {w : World} {S : Nat → Prop} : ∀ {ds : List D} {vs : List Value}, valsAll w S ds vs → ∀ (j : Nat) (d : D), ds[j]? = some d → ∃ v, vs[j]? = some v ∧ D.is w S d v
  | [], _, _, j, d, hd => by simp at hd
  | d0 :: ds, vs, h, j, d, hd => by
    simp only [valsAll] at h
    obtain ⟨u, us, rfl, h1, h2⟩ := h
    cases j with
    | zero => exact ⟨u, rfl, by simp at hd; subst hd; exact h1⟩
    | succ j => simpa using valsAll_get h2 j d (by simpa using hd)
def endQ (cx : Cx) (fn : Func) (K : D → Heap → Prop) : Exit → St → Prop
  | .normal, s | .ret, s => s.df = [] ∧ ResIs cx fn s K
  | _, _ => False
theorem does_enter {P : Program} {f : FuncId} {fn : Func} {c : Code} {ds : List D} {H : Heap} {K : D → Heap → Prop} (N : Nat) (hf : P.funcs[f]? = some fn) (hname : (fn.name == "runtime.NumGoroutine") = false) (hb : fn.body = some c) (hN : fn.ntmps = N) (hl : ds.length ≤ N)
    (h : ∀ w0, W ⟨P, none, N, H, w0⟩ c (endQ ⟨P, none, N, H, w0⟩ fn K) (St.init ds H)) : Does P f ds H K := And.intro (ent_of hf hname hb) fun w vs hvs hH => by
  refine calls_of_FR (ro := none) (n := 9) (callsIn_of_wp hf hb trivial ?_ rfl)
  have hlen := valsAll_length hvs
  have m : Match ⟨P, none, N, H, w⟩ (St.init ds H) { tmps := vs.toArray ++ Array.replicate (fn.ntmps - vs.toArray.size) undef, defers := [] } w := by
    refine ⟨by simp; omega, rfl, fun t => ?_, hH, Ev.refl _ _⟩
    simp only [St.init]
    rcases Nat.lt_or_ge t ds.length with hlt | hge
    · obtain ⟨v, h1, h2⟩ := valsAll_get hvs t ds[t] (by simp [hlt])
      have e1 : ds.getD t (.val undef) = ds[t] := by simp [List.getD, hlt]
      have e2 : (vs.toArray ++ Array.replicate (fn.ntmps - vs.toArray.size) undef).getD t undef = v := by
        rw [Array.getD_eq_getD_getElem?, Array.getElem?_append_left (by simp; omega)]
        simp [h1]
      rw [e1, e2]; exact h2
    · have e1 : ds.getD t (.val undef) = .val undef := by simp [List.getD, hge]
      rw [e1]
      simp only [D.is]
      rw [Array.getD_eq_getD_getElem?, Array.getElem?_append_right (by simp; omega), Array.getElem?_replicate]
      split <;> rfl
  refine wpIn_mono (h w _ _ m) fun e a' w' ⟨s', m', q⟩ => ?_
  have key : s'.df = [] ∧ ResIs ⟨P, none, N, H, w⟩ fn s' K → a'.defers = [] ∧ ∃ v, (results fn a'.tmps).run P w' = .ok v w' ∧ ∃ v' d H', Ending.returned v = .returned v' ∧ D.is w' H'.others d v' ∧ HOk w' H' ∧ Ev H w H' w' ∧ K d H' := by
    rintro ⟨hdf, hres⟩
    obtain ⟨v, d, H', h1, h2, h3, h4⟩ := hres a' w' m'
    have m2 := m'.less h3
    exact ⟨m'.df.trans hdf, v, h1, v, d, H', rfl, h2, m2.H, m2.ev, h4⟩
  cases e with
  | normal =>
    obtain ⟨h1, v, h2, h3⟩ := key q
    exact ⟨h1, v, h2, h3⟩
  | ret =>
    obtain ⟨h1, v, h2, h3⟩ := key q
    exact ⟨h1, v, h2, h3⟩
  | _ => exact q.elim
end Go.Proofs.Ytdcnpkpibbefhaa
