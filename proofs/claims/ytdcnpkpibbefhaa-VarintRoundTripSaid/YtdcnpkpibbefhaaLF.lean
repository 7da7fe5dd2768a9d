/- A program logic over descriptions of values. Part 15: a region whose order is open, the rule. -/
import Derived.Test.YtdcnpkpibbefhaaLE
namespace Go.Proofs.Ytdcnpkpibbefhaa
open Go.RowKit
set_option linter.unusedVariables false
set_option linter.unusedSimpArgs false

theorem Det.mono {F : (D → Prop) → Prop} (h : Det F) {K K' : D → Prop} (hk : ∀ d, K d → K' d) (hf : F K) : F K' := by
  obtain ⟨p, d, hd⟩ := h
  have := (hd K).1 hf
  exact (hd K').2 ⟨this.1, hk d this.2⟩
theorem calm_sound {cx : Cx} {G : Option Tmp → List D → D → Heap → Prop} {H : Heap} {s : St} {o : Oper} {K : D → Heap → Prop} (hle : H.le s.H) (hd : okd cx.n o.dst) (h : calmOp cx.P G H s o K) :
    WO cx o (fun s' => ∃ d A, K d A ∧ Disj A s.H ∧ s' = s.out o d A) s := by
  have pure_ : ∀ {d : D}, K d .none → ∃ d' A, K d' A ∧ Disj A s.H ∧ s.put o.dst d = s.out o d' A := fun {d} hk => ⟨d, .none, hk, Disj.none _, rfl⟩
  have stp : stepOp cx o s (fun s' => ∃ d A, K d A ∧ Disj A s.H ∧ s' = s.out o d A) → WO cx o (fun s' => ∃ d A, K d A ∧ Disj A s.H ∧ s' = s.out o d A) s := step_sound hd
  unfold calmOp at h
  split at h
  case h_1 x e => exact stp (by unfold stepOp; rw [e]; exact pure_ h)
  case h_2 x e => exact stp (by unfold stepOp; rw [e]; exact pure_ h)
  case h_3 c x y e =>
    refine stp ?_
    unfold stepOp
    rw [e]
    split at h
    · rename_i b hb
      simp only [hb]
      rw [selV_iff] at h ⊢
      exact ⟨fun e => pure_ (h.1 e), fun e => pure_ (h.2 e)⟩
    · exact h.elim
  case h_4 t x e =>
    refine stp ?_
    unfold stepOp
    rw [e]
    simp only [bxV]
    split at h
    · rename_i cs hc
      simp only [hc]
      exact fun b hb => ⟨_, _, h b, disj_upd hb, by unfold St.out; rw [Heap.add_upd]⟩
    · exact h.elim
  case h_5 t ps e => exact stp (by unfold stepOp; rw [e]; exact (det_bdV _ _ _).mono (fun d hk => pure_ hk) h)
  case h_6 t n ps e =>
    split at h
    · rename_i el _ _ _ hT
      split at h
      · rename_i dE sz byE zs hE
        obtain ⟨hzl, hlen, hle2, h⟩ := h
        split at h
        · rename_i els hels
          refine WO_val (by simp [e]) hd fun a w m => ?_
          have hb : bsV cx.P s.H t n (s.parts ps) (fun d H' => ∃ b, s.H b = none ∧ d = .os b 0 sz 0 n ∧ H' = s.H.upd b (.row el 0 sz els)) := by
            unfold bsV
            simp only [hT, hE, hels]
            exact ⟨hzl, hlen, hle2, fun b hb => ⟨b, hb, rfl, rfl⟩⟩
          obtain ⟨r, d', w', H', h1, h2, h3, h4, b, hb1, rfl, rfl⟩ := run_bsV m.H hb (m.parts_ ps)
          have hel : els.length = n := by
            have := (rowsD_spec hels (m.parts_ ps)).1
            omega
          have hle3 : s.H.le (s.H.upd b (.row el 0 sz els)) := Heap.le_new (Heap.le_refl _) hb1
          have hseq : elsP (s.H.upd b (.row el 0 sz els)) sz (.os b 0 sz 0 n) (fun l => l = els) := by
            simp only [elsP, Heap.upd_same]
            exact ⟨trivial, trivial, trivial, by omega, by rw [List.drop_zero, ← hel, List.take_length]⟩
          obtain ⟨l, A, c, rfl, rfl, hlc, hrow⟩ := elsP_spec h3 hseq h2
          refine ⟨.slice A l.length c, w', .seq sz l, s.H, ?_, ?_, h3.less hle3, h4.less hle3, ⟨_, .none, h, Disj.none _, rfl⟩⟩
          · simp only [execOp, e, Sem.run_bind, h1, Result.andThen, Sem.run_pure]
          · simp only [D.is]
            refine ⟨A, c, rfl, hlc, ?_⟩
            rcases hrow with hrow | ⟨b', o', rfl, hb', hr⟩
            · exact .inl hrow
            · by_cases hn : l = []
              · exact .inl hn
              · right
                refine ⟨b', o', rfl, ?_, hb', ?_⟩
                · simp only [D.is] at h2
                  obtain ⟨A2, c2, e2, _, hA2⟩ := h2
                  injection e2 with e3 e4 e5
                  have hpos : 0 < n := by
                    rcases l with _ | ⟨_, _⟩
                    · exact absurd rfl hn
                    · simp at hel; omega
                  rcases hA2 with hA2 | ⟨hA2, _⟩
                  · omega
                  · rw [hA2] at e3
                    injection e3 with e3
                    injection e3 with e3
                    subst e3
                    exact hb1
                · exact rowsAt_of fun i el' hi => by
                    obtain ⟨g1, g2⟩ := rowsAt_get hr i el' hi
                    refine ⟨g1, ?_⟩
                    obtain ⟨vs, g3, g4⟩ := cellsAt_vals g2
                    exact cellsAt_of (cellsAll_keep (Kept.less hle3 w') _ g3) g4
        · exact h.elim
      · exact h.elim
    · exact h.elim
  case h_7 t x e => exact stp (by unfold stepOp; rw [e]; exact (det_ldV _ _ _ _).mono (fun d hk => pure_ hk) (ldV_le hle h))
  case h_8 x e => exact stp (by unfold stepOp; rw [e]; exact (det_ncV _).mono (fun d hk => pure_ hk) h)
  case h_9 op t x y _ e => exact stp (by unfold stepOp; rw [e]; exact (det_binV _ _ _ _ _).mono (fun d hk => pure_ hk) h)
  case h_10 op _ x e => exact stp (by unfold stepOp; rw [e]; exact (det_unV _ _).mono (fun d hk => pure_ hk) h)
  case h_11 a b x e => exact stp (by unfold stepOp; rw [e]; exact (det_cvV _ _ _ _ _).mono (fun d hk => pure_ hk) (cvV_le hle h))
  case h_12 f first caps e => exact stp (by unfold stepOp; rw [e]; exact ⟨h.1, pure_ h.2⟩)
  case h_13 t x lo hi mx e => exact stp (by unfold stepOp; rw [e]; exact (det_slV _ s.H _ _ _ _ _).mono (fun d hk => pure_ hk) h)
  case h_14 t x f e => exact stp (by unfold stepOp; rw [e]; exact (det_faV _ _ _ _).mono (fun d hk => pure_ hk) h)
  case h_15 t x f e => exact stp (by unfold stepOp; rw [e]; exact (det_fieldV _ _ _ _).mono (fun d hk => pure_ hk) h)
  case h_16 t x i e => exact stp (by unfold stepOp; rw [e]; exact (det_iaV _ s.H _ _ _).mono (fun d hk => pure_ hk) h)
  case h_17 t x i e => exact stp (by unfold stepOp; rw [e]; exact (det_ixV _ _ _ _).mono (fun d hk => pure_ hk) h)
  case h_18 x i e => exact stp (by unfold stepOp; rw [e]; exact (det_exV _ _).mono (fun d hk => pure_ hk) h)
  case h_19 c e =>
    refine stp ?_
    unfold stepOp
    rw [e]
    simp only [clV]
    split at h
    · rename_i f hc
      simp only [hc]
      split at h
      · rename_i g caps hf
        simp only [hf]
        refine (h.1 s.H hle).mono ?_
        rintro d H' ⟨A, hA, rfl, hG⟩
        exact ⟨d, A, h.2 d A hG, hA, rfl⟩
      · exact h.elim
    · rename_i hc
      simp only [hc, biV]
      split at h
      · rename_i t x ht hx
        simp only [hx, ht]
        exact (det_lenV _ _ _ _).mono (fun d hk => pure_ hk) (lenV_le hle h)
      · exact h.elim
    · rename_i hc
      simp only [hc, biV]
      exact (det_minV _).mono (fun d hk => pure_ hk) h
    · rename_i hc
      simp only [hc, biV]
      exact (det_maxV _).mono (fun d hk => pure_ hk) h
    · exact h.elim
  case h_20 => exact h.elim
theorem g_sound {cx : Cx} {G : Option Tmp → List D → D → Heap → Prop} {H : Heap} {ops : List Oper} {s : St} {i : Nat} {o : Oper} {K : D → Heap → Prop} (hle : H.le s.H) (hok : okOps cx.n ops = true) (ho : ops[i]? = some o) (h : gOp cx.P G H ops.toArray s o K)
    {a : Act} {w : World} (m : Match cx s a w) {Q : Exit → Act → World → Prop} :
    wpOpIn (FR cx.ro) 9 cx.P ops.toArray Q i (fun a' w' => ∃ d A, K d A ∧ Disj A s.H ∧ Match cx (s.out o d A) a' w') a w := by
  have hall : ∀ o' ∈ ops, okd cx.n o'.dst := fun o' ho' => by
    have := (List.all_eq_true.1 hok) o' ho'
    unfold okd
    cases hq : o'.dst with
    | none => trivial
    | some t => rw [hq] at this; simpa using this
  have hd := hall o (List.mem_of_getElem? ho)
  have run : ∀ {K : D → Heap → Prop}, calmOp cx.P G H s o K → o.wpIn (FR cx.ro) 9 cx.P a w (fun a' w' => ∃ d A, K d A ∧ Disj A s.H ∧ Match cx (s.out o d A) a' w') Q := fun hc =>
    Oper.wpIn_mono (fun a' w' ⟨s', m', d, A, h1, h2, h3⟩ => ⟨d, A, h1, h2, h3 ▸ m'⟩) (wpIn_anyQ (calm_sound hle hd hc a w m))
  have skip : K (.val undef) .none → ∃ d A, K d A ∧ Disj A s.H ∧ Match cx (s.out o d A) (a.put o.dst undef) w := fun hk =>
    ⟨_, .none, hk, Disj.none _, m.put (okd_spec hd) (by simp only [D.is])⟩
  unfold wpOpIn
  have ho' : ops.toArray[i]? = some o := by simpa using ho
  rw [ho']
  simp only
  unfold gOp at h
  split at h
  · rename_i hg
    have hw : Region.wanted o (yielded ops.toArray a.tmps) = true := by simp [Region.wanted, hg]
    rw [if_pos hw]
    exact run h
  · rename_i j want hg
    have hwt : Region.wanted o (yielded ops.toArray a.tmps) = (yielded ops.toArray a.tmps j == some want) := by unfold Region.wanted; rw [hg]
    split at h
    · rename_i t ht
      have htn : t < cx.n := by
        unfold dstOf at ht
        cases hj : ops.toArray[j]? with
        | none => rw [hj] at ht; cases ht
        | some o' =>
          rw [hj] at ht
          have := hall o' (by have := Array.mem_of_getElem? hj; simpa using this)
          simp at ht
          rw [ht] at this
          exact this
      have hy : yielded ops.toArray a.tmps j = match a.tmps[t]? with | some (.bool b) => some b | _ => none := by
        unfold yielded
        unfold dstOf at ht
        rw [ht]
        rfl
      have hta : t < a.tmps.size := by rw [m.n]; exact htn
      have hgt : a.tmps[t]? = some (a.tmps.getD t undef) := by simp [hta]
      have hf := m.fr t
      split at h
      · rename_i b hb
        rw [selW_iff] at h
        rw [hb] at hf
        simp only [D.is] at hf
        rw [hgt, hf] at hy
        simp only at hy
        rw [hy] at hwt
        by_cases e : b = want
        · rw [if_pos (by rw [hwt, e]; simp)]
          exact run (h.1 e)
        · have e2 : b = !want := by cases b <;> cases want <;> first | rfl | exact absurd rfl e
          rw [if_neg (by rw [hwt, e2]; cases want <;> simp)]
          exact ⟨about_FR, skip (h.2 e2)⟩
      · rename_i hb
        rw [hb] at hf
        simp only [D.is] at hf
        rw [hgt, hf] at hy
        simp only at hy
        rw [hy] at hwt
        rw [if_neg (by rw [hwt]; simp)]
        exact ⟨about_FR, skip h⟩
      · exact h.elim
    · exact h.elim
/-- What a step achieves is achieved somewhere. -/
theorem wpIn_some {ro : Option Nat} {P : Program} {o : Oper} {a : Act} {w : World} {K : Act → World → Prop} (h : o.wpIn (FR ro) 9 P a w K NoQ) : ∃ a' w', K a' w' := by
  have room : ∀ n, (FR ro).room n := fun n d hd => by cases hd
  unfold Oper.wpIn at h
  have h2 := h.2
  generalize (o.semAt (FR ro).round a.eval).run P w = r at *
  cases r with
  | ok x w' =>
    cases x <;> simp only [Oper.uponIn] at h2 <;> first
      | exact ⟨_, _, h2⟩
      | exact h2.elim
      | (obtain ⟨e, w'', fr, hR, _⟩ := h2.2.2 [] (room _)
         cases e with
         | returned v => exact ⟨_, _, hR⟩
         | panicked c => exact hR.elim
         | outgrown => obtain ⟨_, _, hf⟩ := hR; exact hf.elim)
      | (obtain ⟨v, w'', hR, _⟩ := h2.2 default [] (room _)
         exact ⟨_, _, hR⟩)
      | (obtain ⟨e, w'', hR, _⟩ := h2.2.2 default [] (room _)
         cases e with
         | returned v => exact ⟨_, _, hR⟩
         | panicked c => exact hR.elim
         | outgrown => obtain ⟨_, _, hf⟩ := hR; exact hf.elim)
  | halt x w' => cases x <;> simp only [Oper.uponIn] at h2 <;> first | exact h2.elim
theorem wpOpIn_some {ro : Option Nat} {P : Program} {ops : Array Oper} {i : Nat} {a : Act} {w : World} {K : Act → World → Prop} (h : wpOpIn (FR ro) 9 P ops NoQ i K a w) : ∃ a' w', K a' w' := by
  unfold wpOpIn at h
  split at h
  · exact ⟨_, _, h⟩
  · split at h
    · exact wpIn_some h
    · exact ⟨_, _, h.2⟩
/-- What an operation needs, it has already ahead of others. -/
theorem vcD_pre {cx : Cx} {G : Option Tmp → List D → D → Heap → Prop} {H : Heap} {ops : List Oper} {Q : St → Prop} {o : Oper} (hok : okOps cx.n ops = true) : ∀ {pre post : List Oper} {s : St} {a : Act} {w : World}, (∀ p ∈ pre, Indep ops.toArray p o ∧ p ∈ ops) → vcD cx.P G H ops.toArray Q (pre ++ o :: post) s →
    H.le s.H → Match cx s a w → gOp cx.P G H ops.toArray s o fun _ _ => True
  | [], post, s, a, w, _, h, _, _ => by
    simp only [List.nil_append, vcD] at h
    exact (g_uni _ _ _ _ _ _).2 _ _ (fun _ _ _ => trivial) h
  | p :: pre, post, s, a, w, hi, h, hle, m => by
    simp only [List.cons_append, vcD] at h
    obtain ⟨i, hpi⟩ := List.getElem?_of_mem (hi p (by simp)).2
    obtain ⟨a', w', d, A, hk, hA, m'⟩ := wpOpIn_some (g_sound (Q := NoQ) hle hok hpi h m)
    have ih := vcD_pre hok (fun q hq => hi q (by simp [hq])) (hk hA) (by rw [out_H]; exact Heap.le_trans hle (Heap.le_add hA)) m'
    have hev : gOp cx.P G H ops.toArray (s.out p d A) o = gOp cx.P G H ops.toArray s o := g_ev fun t ht => out_fr fun e => ((hi p (by simp)).1.1 t e).1 ht
    rw [hev] at ih
    exact ih
/-- Whatever of two operations names what the other writes is tied by an edge; edges lead backwards. -/
def depOK (ops : List Oper) : Bool :=
  ops.zipIdx.all fun (o, j) => o.after.toList.all (fun e => !Region.binds .any e || decide (e.on < j)) &&
    (ops.take j).zipIdx.all fun (p, i) =>
      o.after.toList.any (fun e => Region.binds .any e && e.on == i) ||
      ((match p.dst with
        | some t => !(Oper.reads ops.toArray o).contains t && o.dst != some t
        | none => true) &&
      (match o.dst with
        | some t => !(Oper.reads ops.toArray p).contains t
        | none => true))
theorem depOK_edge {ops : List Oper} (h : depOK ops = true) {j : Nat} {o : Oper} (ho : ops[j]? = some o) : ∀ e ∈ o.after.toList, Region.binds .any e = true → e.on < j := fun e he hb => by
  have := (List.all_eq_true.1 h) (o, j) (List.mem_zipIdx_iff_getElem?.2 (by simpa using ho))
  simp only [Bool.and_eq_true] at this
  have := (List.all_eq_true.1 this.1) e he
  rw [hb] at this
  simpa using this
theorem depOK_indep {ops : List Oper} (h : depOK ops = true) {i j : Nat} {p o : Oper} (hij : i < j) (hp : ops[i]? = some p) (ho : ops[j]? = some o) (hne : ∀ e ∈ o.after.toList, Region.binds .any e = true → e.on ≠ i) : Indep ops.toArray p o := by
  have := (List.all_eq_true.1 h) (o, j) (List.mem_zipIdx_iff_getElem?.2 (by simpa using ho))
  simp only [Bool.and_eq_true] at this
  have := (List.all_eq_true.1 this.2) (p, i) (List.mem_zipIdx_iff_getElem?.2 (by simp only [List.getElem?_take]; rw [if_pos hij]; exact hp))
  simp only [Bool.or_eq_true, Bool.and_eq_true] at this
  rcases this with h1 | ⟨h1, h2⟩
  · exfalso
    obtain ⟨e, he, h3⟩ := List.any_eq_true.1 h1
    simp only [Bool.and_eq_true, beq_iff_eq] at h3
    exact hne e he h3.1 h3.2
  · refine ⟨fun t ht => ?_, fun t ht => ?_⟩
    · rw [ht] at h1
      simpa using h1
    · rw [ht] at h2
      simpa using h2
theorem pairwise_mid {α : Type} {r : α → α → Prop} {pre post : List α} {x : α} (h : (pre ++ x :: post).Pairwise r) : (∀ y ∈ pre, r y x) ∧ (∀ y ∈ post, r x y) ∧ (pre ++ post).Pairwise r := by
  rw [List.pairwise_append, List.pairwise_cons] at h
  refine ⟨fun y hy => h.2.2 y hy x (by simp), h.2.1.1, ?_⟩
  rw [List.pairwise_append]
  exact ⟨h.1, h.2.1.2, fun a ha b hb => h.2.2 a ha b (by simp [hb])⟩
theorem draw_any {cx : Cx} {G : Option Tmp → List D → D → Heap → Prop} {H : Heap} {ops : List Oper} {Q : Exit → St → Prop} (hok : okOps cx.n ops = true) (hdep : depOK ops = true) : ∀ (fuel : Nat) (R : List Nat) (listed : Array Bool) (s : St) (a : Act) (w : World),
    R.length ≤ fuel → R.Pairwise (· < ·) → listed.size = ops.length → (∀ i, i ∈ R ↔ i < ops.length ∧ listed.getD i true = false) → H.le s.H → Match cx s a w → vcD cx.P G H ops.toArray (Q .normal) (R.filterMap (ops[·]?)) s →
    wpAnyIn (FR cx.ro) 9 cx.P .any ops.toArray (QQ cx Q) fuel listed a w := by
  have stuck : ∀ (R : List Nat) (listed : Array Bool), R.Pairwise (· < ·) → (∀ i, i ∈ R ↔ i < ops.length ∧ listed.getD i true = false) → listed.size = ops.length → Region.ready .any ops.toArray listed = [] → R = [] := by
    intro R listed hp hmem hsz hr
    rcases R with _ | ⟨r, R⟩
    · rfl
    · exfalso
      have hr1 := (hmem r).1 (by simp)
      obtain ⟨o, ho⟩ : ∃ o, ops[r]? = some o := ⟨ops[r], by simp [hr1.1]⟩
      have : r ∈ Region.ready .any ops.toArray listed := by
        unfold Region.ready
        rw [List.mem_filter]
        refine ⟨by simp; exact hr1.1, ?_⟩
        have ho' : ops.toArray[r]? = some o := by simpa using ho
        rw [hr1.2, ho']
        simp only [Bool.not_false, Bool.true_and, Option.map_some, Option.getD_some]
        rw [← Array.all_toList, List.all_eq_true]
        intro e he
        cases hb : Region.binds .any e with
        | false => simp
        | true =>
          have hlt := depOK_edge hdep ho e he hb
          have : ¬ e.on ∈ r :: R := fun hm => by
            rw [List.pairwise_cons] at hp
            rcases List.mem_cons.1 hm with h1 | h1
            · omega
            · have := hp.1 _ h1; omega
          have h2 : listed.getD e.on true = true := by
            cases hl : listed.getD e.on true with
            | true => rfl
            | false => exact absurd ((hmem e.on).2 ⟨by omega, hl⟩) this
          have h3 : listed.getD e.on false = true := by
            have hlt2 : e.on < listed.size := by omega
            simp only [Array.getD, hlt2, dif_pos] at h2 ⊢
            exact h2
          simp [h3]
      rw [hr] at this
      cases this
  intro fuel
  induction fuel with
  | zero =>
    intro R listed s a w hlen hp hsz hmem hle m h
    obtain rfl : R = [] := List.eq_nil_of_length_eq_zero (by omega)
    have hready : Region.ready .any ops.toArray listed = [] := by
      rw [List.eq_nil_iff_forall_not_mem]
      intro i hi
      unfold Region.ready at hi
      rw [List.mem_filter] at hi
      have h2 := hi.2
      simp only [Bool.and_eq_true, Bool.not_eq_true'] at h2
      exact absurd ((hmem i).2 ⟨by simpa using hi.1, h2.1⟩) (by simp)
    exact ⟨hready, s, m, by simpa [vcD] using h⟩
  | succ fuel ih =>
    intro R listed s a w hlen hp hsz hmem hle m h
    refine ⟨fun hr => ?_, fun i hi => ?_⟩
    · obtain rfl := stuck R listed hp hmem hsz hr
      exact ⟨s, m, by simpa [vcD] using h⟩
    · unfold Region.ready at hi
      rw [List.mem_filter] at hi
      obtain ⟨hi1, hi2⟩ := hi
      have hil : i < ops.length := by simpa using hi1
      obtain ⟨o, ho⟩ : ∃ o, ops[i]? = some o := ⟨ops[i], by simp [hil]⟩
      have ho' : ops.toArray[i]? = some o := by simpa using ho
      rw [ho'] at hi2
      simp only [Bool.and_eq_true, Bool.not_eq_true', Option.map_some, Option.getD_some] at hi2
      obtain ⟨hl, hedges⟩ := hi2
      have hiR : i ∈ R := (hmem i).2 ⟨hil, hl⟩
      obtain ⟨pre, post, rfl⟩ := List.append_of_mem hiR
      obtain ⟨hpre, hpost, hpw⟩ := pairwise_mid hp
      have hin : ∀ p ∈ pre.filterMap (ops[·]?), Indep ops.toArray p o ∧ p ∈ ops := fun p hpp => by
        obtain ⟨k, hk, hkp⟩ := List.mem_filterMap.1 hpp
        refine ⟨depOK_indep hdep (hpre k hk) hkp ho fun e he hb hek => ?_, List.mem_of_getElem? hkp⟩
        rw [← Array.all_toList, List.all_eq_true] at hedges
        have := hedges e he
        rw [hb] at this
        simp only [Bool.not_true, Bool.false_or] at this
        have hk2 := (hmem k).1 (by simp [hk])
        rw [hek] at this
        have hlt2 : k < listed.size := by omega
        simp only [Array.getD, hlt2, dif_pos] at this hk2
        rw [hk2.2] at this
        cases this
      have hsplit : (pre ++ i :: post).filterMap (ops[·]?) = pre.filterMap (ops[·]?) ++ o :: post.filterMap (ops[·]?) := by
        rw [List.filterMap_append, List.filterMap_cons, ho]
      rw [hsplit] at h
      have hpreo := vcD_pre hok hin h hle m
      have hcan := (g_uni cx.P G H ops.toArray s o).1 _ hpreo
      refine wpOpIn_mono ?_ (g_sound hle hok ho hcan m)
      rintro a' w' ⟨d, A, hout, hA, m'⟩
      have h2 := vcD_first (fun p hpp => (hin p hpp).1) h hout hA
      refine ih (pre ++ post) _ (s.out o d A) a' w' ?_ hpw (by simpa using hsz) ?_ (by rw [out_H]; exact Heap.le_trans hle (Heap.le_add hA)) m' (by rw [List.filterMap_append]; exact h2)
      · simp at hlen ⊢; omega
      · intro k
        have hk := hmem k
        rw [List.mem_append, List.mem_cons] at hk
        rw [List.mem_append]
        have hlt : i < listed.size := by omega
        have hget : (listed.setIfInBounds i true).getD k true = if k = i then true else listed.getD k true := getD_set _ _ _ _ _ hlt
        rw [hget]
        by_cases e : k = i
        · subst e
          simp only [if_true]
          constructor
          · rintro (h3 | h3)
            · have := hpre _ h3; omega
            · have := hpost _ h3; omega
          · rintro ⟨_, h3⟩; cases h3
        · rw [if_neg e, ← hk]
          constructor
          · rintro (h3 | h3)
            · exact .inl h3
            · exact .inr (.inr h3)
          · rintro (h3 | h3 | h3)
            · exact .inl h3
            · exact absurd h3 e
            · exact .inr h3
theorem filterMap_map {α β : Type} {f : α → Option β} {g : α → β} : ∀ {l : List α}, (∀ x ∈ l, f x = some (g x)) → l.filterMap f = l.map g
  | [], _ => rfl
  | x :: l, h => by rw [List.filterMap_cons, h x (by simp), List.map_cons, filterMap_map fun y hy => h y (by simp [hy])]
/-- **A region whose order is open.** -/
theorem W_draw {cx : Cx} {id : Nat} {ops : List Oper} {Q : Exit → St → Prop} {s : St} (G : Option Tmp → List D → D → Heap → Prop) (hm : cx.P.follows .mixedOrders = true) (hok : okOps cx.n ops = true) (hdep : depOK ops = true)
    (h : vcD cx.P G s.H ops.toArray (Q .normal) ops s) : W cx (.region id ops.toArray true) Q s := fun a w m => by
  refine wpIn_region_any hm ?_
  have m' : Match cx s a w.drew := m.go (ev_drew s.H w) m.H.drew
  have e : (List.range ops.length).filterMap (ops[·]?) = ops := by
    rw [filterMap_map (g := fun i => ops.getD i default) fun i hi => by
      have : i < ops.length := by simpa using hi
      simp [List.getD, this]]
    apply List.ext_getElem?
    intro i
    by_cases hi : i < ops.length
    · simp [hi, List.getD]
    · simp [hi]
  refine draw_any hok hdep _ (List.range ops.length) _ s a _ (by simp) List.pairwise_lt_range (by simp) (fun i => ?_) (Heap.le_refl _) m' (by rw [e]; exact h)
  simp only [List.mem_range, List.size_toArray]
  constructor
  · intro hi
    refine ⟨hi, ?_⟩
    simp [Array.getD, hi]
  · exact fun h => h.1
end Go.Proofs.Ytdcnpkpibbefhaa
