/- Lemmas and contracts of functions, several texts in one: LK LL LM LN LP DT. -/
import Derived.Test.YtgfhgeelfaalmaaGreatDoorK03
import Derived.Test.YtgfhgeelfaalmaaGreatDoorK02
import Derived.Deep.Slices
import Derived.OpenShut
namespace Go.Proofs.YtgfhgeelfaalmaaGreatDoor
open Go.RowKit
set_option linter.unusedVariables false
set_option linter.unusedSimpArgs false
theorem wild_sound {cx : Cx} {GW : Option Tmp → List D → Heap → D → Heap → Prop} {s : St} {o : Oper} {K : D → Heap → Prop} (hd : okd cx.n o.dst) (h : wildOp cx.P GW s o K) :
    WO cx o (fun s' => ∃ d H', K d H' ∧ s' = s.outW o d H') s := by
  refine step_sound hd ?_
  unfold wildOp at h
  split at h
  · rename_i t x y e
    unfold stepOp
    rw [e]
    exact (stV_uni cx.P s.H t (s.ev x) (s.ev y)).2 K (fun d H' => ∃ d' H'', K d' H'' ∧ (s.withH H').put o.dst d = s.outW o d' H'') (fun d H' hk => ⟨d, H', hk, rfl⟩) h
  · rename_i t x i y e
    unfold stepOp
    rw [e]
    exact (muV_uni cx.P s.H t (s.ev x) (s.ev i) (s.ev y)).2 K (fun d H' => ∃ d' H'', K d' H'' ∧ (s.withH H').put o.dst d = s.outW o d' H'') (fun d H' hk => ⟨d, H', hk, rfl⟩) h
  · rename_i c e
    unfold stepOp
    rw [e]
    simp only
    unfold clV
    split at h
    · rename_i hc
      rw [hc]
      simp only [biV]
      split at h
      · rename_i t xt x y ht hx
        simp only [ht, hx]
        split at h
        · exact h.elim
        · rename_i hni
          split
          · rename_i he
            exact absurd he (hni _ _ _ _)
          · exact (apV_uni cx.P s.H t xt x y).2 K (fun d H' => ∃ d' H'', K d' H'' ∧ (s.withH H').put o.dst d = s.outW o d' H'') (fun d H' hk => ⟨d, H', hk, rfl⟩) h
      · exact h.elim
    · rename_i hc
      rw [hc]
      simp only [biV]
      split at h
      · rename_i t xt x y ht hx
        simp only [ht, hx]
        exact (cpyV_uni cx.P s.H t x y).2 K (fun d H' => ∃ d' H'', K d' H'' ∧ (s.withH H').put o.dst d = s.outW o d' H'') (fun d H' hk => ⟨d, H', hk, rfl⟩) h
      · exact h.elim
    · rename_i f hc
      rw [hc]
      simp only
      split at h
      · rename_i g caps hf
        simp only [hf]
        exact h.1.mono fun d H' hg => ⟨d, H', h.2 d H' hg, rfl⟩
      · exact h.elim
    · exact h.elim
  · exact h.elim
theorem gW_sound {cx : Cx} {GW : Option Tmp → List D → Heap → D → Heap → Prop} {ops : List Oper} {s : St} {i : Nat} {o : Oper} {K : D → Heap → Prop} (hok : okOps cx.n ops = true) (ho : ops[i]? = some o) (h : gW cx.P GW ops.toArray s o K)
    {a : Act} {w : World} (m : Match cx s a w) {Q : Exit → Act → World → Prop} :
    wpOpIn (FR cx.ro) 9 cx.P ops.toArray Q i (fun a' w' => ∃ d H', K d H' ∧ Match cx (s.outW o d H') a' w') a w := by
  have hall : ∀ o' ∈ ops, okd cx.n o'.dst := fun o' ho' => by
    have := (List.all_eq_true.1 hok) o' ho'
    unfold okd
    cases hq : o'.dst with
    | none => trivial
    | some t => rw [hq] at this; simpa using this
  have hd := hall o (List.mem_of_getElem? ho)
  have run : ∀ {K : D → Heap → Prop}, wildOp cx.P GW s o K → o.wpIn (FR cx.ro) 9 cx.P a w (fun a' w' => ∃ d H', K d H' ∧ Match cx (s.outW o d H') a' w') Q := fun hc =>
    Oper.wpIn_mono (fun a' w' ⟨s', m', d, A, h1, h3⟩ => ⟨d, A, h1, h3 ▸ m'⟩) (wpIn_anyQ (wild_sound hd hc a w m))
  have skip : K (.val undef) s.H → ∃ d H', K d H' ∧ Match cx (s.outW o d H') (a.put o.dst undef) w := fun hk =>
    ⟨_, s.H, hk, m.put (okd_spec hd) (by simp only [D.is])⟩
  unfold wpOpIn
  have ho' : ops.toArray[i]? = some o := by simpa using ho
  rw [ho']
  simp only
  unfold gW at h
  split at h
  · rename_i hg
    have hw : Region.wanted o (yielded ops.toArray a.tmps) = true := by simp [Region.wanted, hg]
    rw [if_pos hw]
    exact run h
  · rename_i j want hg
    have hwt : Region.wanted o (yielded ops.toArray a.tmps) = (yielded ops.toArray a.tmps j == some want) := by unfold Region.wanted; rw [hg]
    split at h
    · rename_i t ht
      have htn : t < cx.n := by
        unfold dstOf at ht
        cases hj : ops.toArray[j]? with
        | none => rw [hj] at ht; cases ht
        | some o' =>
          rw [hj] at ht
          have := hall o' (by have := Array.mem_of_getElem? hj; simpa using this)
          simp at ht
          rw [ht] at this
          exact this
      have hy : yielded ops.toArray a.tmps j = match a.tmps[t]? with | some (.bool b) => some b | _ => none := by
        unfold yielded
        unfold dstOf at ht
        rw [ht]
        rfl
      have hta : t < a.tmps.size := by rw [m.n]; exact htn
      have hgt : a.tmps[t]? = some (a.tmps.getD t undef) := by simp [hta]
      have hf := m.fr t
      split at h
      · rename_i b hb
        rw [selW_iff] at h
        rw [hb] at hf
        simp only [D.is] at hf
        rw [hgt, hf] at hy
        simp only at hy
        rw [hy] at hwt
        by_cases e : b = want
        · rw [if_pos (by rw [hwt, e]; simp)]
          exact run (h.1 e)
        · have e2 : b = !want := by cases b <;> cases want <;> first | rfl | exact absurd rfl e
          rw [if_neg (by rw [hwt, e2]; cases want <;> simp)]
          exact ⟨about_FR, skip (h.2 e2)⟩
      · rename_i hb
        rw [hb] at hf
        simp only [D.is] at hf
        rw [hgt, hf] at hy
        simp only at hy
        rw [hy] at hwt
        rw [if_neg (by rw [hwt]; simp)]
        exact ⟨about_FR, skip h⟩
      · exact h.elim
    · exact h.elim
section
variable {cx : Cx} {fl wc : Option Tmp → Bool} {G : Option Tmp → List D → D → Heap → Prop} {GW : Option Tmp → List D → Heap → D → Heap → Prop} {ops : List Oper} {Q : St → Prop}
theorem preW_calm {o : Oper} (hok : okOps cx.n ops = true) (hc : isWild wc o = false) : ∀ {pre post : List Oper} {H : Heap} {s : St} {a : Act} {w : World}, (∀ p ∈ pre, Indep ops.toArray p o ∧ p ∈ ops ∧ isWild wc p = false) → vcW cx.P fl wc G GW ops.toArray Q H (pre ++ o :: post) s →
    H.le s.H → Match cx s a w → gOp cx.P G (hOf fl H o) ops.toArray s o fun _ _ => True
  | [], post, H, s, a, w, _, h, _, _ => by
    simp only [List.nil_append, vcW, hc, Bool.false_eq_true, if_false] at h
    exact (g_uni _ _ _ _ _ _).2 _ _ (fun _ _ _ => trivial) h
  | p :: pre, post, H, s, a, w, hi, h, hle, m => by
    obtain ⟨hip, hpo, hpc⟩ := hi p (by simp)
    simp only [List.cons_append, vcW, hpc, Bool.false_eq_true, if_false] at h
    obtain ⟨i, hpi⟩ := List.getElem?_of_mem hpo
    obtain ⟨a', w', d, A, hk, hA, m'⟩ := wpOpIn_some (g_sound (Q := NoQ) (hOf_le hle) hok hpi h m)
    have ih := preW_calm hok hc (fun q hq => hi q (by simp [hq])) (hk hA) (by rw [out_H]; exact Heap.le_trans hle (Heap.le_add hA)) m'
    have hev : gOp cx.P G (hOf fl H o) ops.toArray (s.out p d A) o = gOp cx.P G (hOf fl H o) ops.toArray s o := g_ev fun t ht => out_fr fun e => (hip.1 t e).1 ht
    rw [hev] at ih
    exact ih
theorem preW_free {o : Oper} (hok : okOps cx.n ops = true) (hf : freeF fl o = true) : ∀ {pre post : List Oper} {H : Heap} {s : St} {a : Act} {w : World}, (∀ p ∈ pre, Indep ops.toArray p o ∧ p ∈ ops) → vcW cx.P fl wc G GW ops.toArray Q H (pre ++ o :: post) s →
    H.le s.H → Match cx s a w → gOp cx.P G (hOf fl H o) ops.toArray s o fun _ _ => True
  | [], post, H, s, a, w, _, h, _, _ => by
    simp only [List.nil_append, vcW, free_wild hf, Bool.false_eq_true, if_false] at h
    exact (g_uni _ _ _ _ _ _).2 _ _ (fun _ _ _ => trivial) h
  | p :: pre, post, H, s, a, w, hi, h, hle, m => by
    obtain ⟨hip, hpo⟩ := hi p (by simp)
    obtain ⟨i, hpi⟩ := List.getElem?_of_mem hpo
    simp only [List.cons_append, vcW] at h
    split at h
    · obtain ⟨a', w', d, H', hk, m'⟩ := wpOpIn_some (gW_sound (Q := NoQ) hok hpi h m)
      have ih := preW_free hok hf (fun q hq => hi q (by simp [hq])) hk (by rw [outW_H]; exact Heap.le_refl _) m'
      have hev : gOp cx.P G (hOf fl H' o) ops.toArray (s.outW p d H') o = gOp cx.P G (hOf fl H' o) ops.toArray s o := g_ev fun t ht => outW_fr fun e => (hip.1 t e).1 ht
      rw [hev, gOp_freeF (H' := H) hf] at ih
      exact ih
    · obtain ⟨a', w', d, A, hk, hA, m'⟩ := wpOpIn_some (g_sound (Q := NoQ) (hOf_le hle) hok hpi h m)
      have ih := preW_free hok hf (fun q hq => hi q (by simp [hq])) (hk hA) (by rw [out_H]; exact Heap.le_trans hle (Heap.le_add hA)) m'
      have hev : gOp cx.P G (hOf fl H o) ops.toArray (s.out p d A) o = gOp cx.P G (hOf fl H o) ops.toArray s o := g_ev fun t ht => out_fr fun e => (hip.1 t e).1 ht
      rw [hev] at ih
      exact ih
theorem preW_wild {o : Oper} (hok : okOps cx.n ops = true) (hw : isWild wc o = true) : ∀ {pre post : List Oper} {H : Heap} {s : St} {a : Act} {w : World}, (∀ p ∈ pre, Indep ops.toArray p o ∧ p ∈ ops ∧ freeF fl p = true) → vcW cx.P fl wc G GW ops.toArray Q H (pre ++ o :: post) s →
    H.le s.H → Match cx s a w → gW cx.P GW ops.toArray s o fun _ _ => True
  | [], post, H, s, a, w, _, h, _, _ => by
    simp only [List.nil_append, vcW, if_pos hw] at h
    exact (gW_uni _ _ _ _ _).2 _ _ (fun _ _ _ => trivial) h
  | p :: pre, post, H, s, a, w, hi, h, hle, m => by
    obtain ⟨hip, hpo, hpf⟩ := hi p (by simp)
    obtain ⟨i, hpi⟩ := List.getElem?_of_mem hpo
    simp only [List.cons_append, vcW, free_wild hpf, Bool.false_eq_true, if_false] at h
    obtain ⟨a', w', d, A, ⟨rfl, hk⟩, hA, m'⟩ := wpOpIn_some (g_sound (Q := NoQ) (hOf_le hle) hok hpi (gOp_noneF hpf h) m)
    have ih := preW_wild hok hw (fun q hq => hi q (by simp [hq])) (hk hA) (by rw [out_H, Heap.add_none]; exact hle) m'
    have hev : gW cx.P GW ops.toArray (s.out p d .none) o = gW cx.P GW ops.toArray s o := gW_ev (by rw [out_H, Heap.add_none]) fun t ht => out_fr fun e => (hip.1 t e).1 ht
    rw [hev] at ih
    exact ih
end
def tabOf (ops : List Oper) : List Nat := ops.foldl (fun acc o => acc ++ [o.after.toList.foldl (fun m e => if Region.binds .any e then m ||| (1 <<< e.on) ||| acc.getD e.on 0 else m) 0]) []
def tabOK (ops : List Oper) (tab : List Nat) : Bool := ops.zipIdx.all fun (o, j) => (List.range j).all fun i => !((tab.getD j 0).testBit i) ||
  o.after.toList.any fun e => Region.binds .any e && (e.on == i || (decide (i < e.on) && (tab.getD e.on 0).testBit i))
def ordOK (fl wc : Option Tmp → Bool) (ops : List Oper) (tab : List Nat) : Bool := ops.zipIdx.all fun (o, j) => (ops.take j).zipIdx.all fun (p, i) =>
  (tab.getD j 0).testBit i || !((isWild wc p && !freeF fl o) || (isWild wc o && !freeF fl p))
theorem tab_R {ops : List Oper} {tab : List Nat} (htab : tabOK ops tab = true) (hdep : depOK ops = true) {R : List Nat} (hcl : ∀ (k : Nat) (o : Oper), ops[k]? = some o → k ∉ R → ∀ e ∈ o.after.toList, Region.binds .any e = true → e.on ∉ R) :
    ∀ (j : Nat) (o : Oper), ops[j]? = some o → (∀ e ∈ o.after.toList, Region.binds .any e = true → e.on ∉ R) → ∀ i, i < j → (tab.getD j 0).testBit i = true → i ∉ R := by
  intro j
  induction j using Nat.strongRecOn with
  | ind j ih =>
    intro o ho he i hi hb
    have := (List.all_eq_true.1 htab) (o, j) (List.mem_zipIdx_iff_getElem?.2 (by simpa using ho))
    have := (List.all_eq_true.1 this) i (List.mem_range.2 hi)
    simp only [hb, Bool.not_true, Bool.false_or] at this
    obtain ⟨e, hem, h3⟩ := List.any_eq_true.1 this
    simp only [Bool.and_eq_true, Bool.or_eq_true, beq_iff_eq, decide_eq_true_eq] at h3
    obtain ⟨hbe, h4⟩ := h3
    have hnot := he e hem hbe
    rcases h4 with rfl | ⟨hlt, h5⟩
    · exact hnot
    · have hej := depOK_edge hdep ho e hem hbe
      have hjl : j < ops.length := (List.getElem?_eq_some_iff.1 ho).1
      obtain ⟨o', ho'⟩ : ∃ o', ops[e.on]? = some o' := ⟨ops[e.on], List.getElem?_eq_getElem (by omega)⟩
      exact ih e.on hej o' ho' (hcl e.on o' ho' hnot) i hlt h5
theorem ordOK_spec {fl wc : Option Tmp → Bool} {ops : List Oper} {tab : List Nat} (h : ordOK fl wc ops tab = true) {i j : Nat} {p o : Oper} (hij : i < j) (hp : ops[i]? = some p) (ho : ops[j]? = some o) (hnb : ¬ (tab.getD j 0).testBit i = true) :
    (isWild wc p = true → freeF fl o = true) ∧ (isWild wc o = true → freeF fl p = true) := by
  have := (List.all_eq_true.1 h) (o, j) (List.mem_zipIdx_iff_getElem?.2 (by simpa using ho))
  have := (List.all_eq_true.1 this) (p, i) (List.mem_zipIdx_iff_getElem?.2 (by simp only [List.getElem?_take]; rw [if_pos hij]; exact hp))
  have hb : (tab.getD j 0).testBit i = false := by simpa using hnb
  simp only [hb, Bool.false_or] at this
  refine ⟨fun e => ?_, fun e => ?_⟩
  · cases hf : freeF fl o with
    | true => rfl
    | false => rw [e, hf] at this; simp at this
  · cases hf : freeF fl p with
    | true => rfl
    | false => rw [e, hf] at this; simp at this
theorem drawW_any {cx : Cx} {fl wc : Option Tmp → Bool} {G : Option Tmp → List D → D → Heap → Prop} {GW : Option Tmp → List D → Heap → D → Heap → Prop} {ops : List Oper} {tab : List Nat} {Q : Exit → St → Prop}
    (hok : okOps cx.n ops = true) (hdep : depOK ops = true) (htab : tabOK ops tab = true) (hord : ordOK fl wc ops tab = true) : ∀ (fuel : Nat) (R : List Nat) (listed : Array Bool) (H : Heap) (s : St) (a : Act) (w : World),
    R.length ≤ fuel → R.Pairwise (· < ·) → listed.size = ops.length → (∀ i, i ∈ R ↔ i < ops.length ∧ listed.getD i true = false) →
    (∀ (k : Nat) (o : Oper), ops[k]? = some o → k ∉ R → ∀ e ∈ o.after.toList, Region.binds .any e = true → e.on ∉ R) →
    H.le s.H → Match cx s a w → vcW cx.P fl wc G GW ops.toArray (Q .normal) H (R.filterMap (ops[·]?)) s →
    wpAnyIn (FR cx.ro) 9 cx.P .any ops.toArray (QQ cx Q) fuel listed a w := by
  have stuck : ∀ (R : List Nat) (listed : Array Bool), R.Pairwise (· < ·) → (∀ i, i ∈ R ↔ i < ops.length ∧ listed.getD i true = false) → listed.size = ops.length → Region.ready .any ops.toArray listed = [] → R = [] := by
    intro R listed hp hmem hsz hr
    rcases R with _ | ⟨r, R⟩
    · rfl
    · exfalso
      have hr1 := (hmem r).1 (by simp)
      obtain ⟨o, ho⟩ : ∃ o, ops[r]? = some o := ⟨ops[r], by simp [hr1.1]⟩
      have : r ∈ Region.ready .any ops.toArray listed := by
        unfold Region.ready
        rw [List.mem_filter]
        refine ⟨by simp; exact hr1.1, ?_⟩
        have ho' : ops.toArray[r]? = some o := by simpa using ho
        rw [hr1.2, ho']
        simp only [Bool.not_false, Bool.true_and, Option.map_some, Option.getD_some]
        rw [← Array.all_toList, List.all_eq_true]
        intro e he
        cases hb : Region.binds .any e with
        | false => simp
        | true =>
          have hlt := depOK_edge hdep ho e he hb
          have : ¬ e.on ∈ r :: R := fun hm => by
            rw [List.pairwise_cons] at hp
            rcases List.mem_cons.1 hm with h1 | h1
            · omega
            · have := hp.1 _ h1; omega
          have h2 : listed.getD e.on true = true := by
            cases hl : listed.getD e.on true with
            | true => rfl
            | false => exact absurd ((hmem e.on).2 ⟨by omega, hl⟩) this
          have h3 : listed.getD e.on false = true := by
            have hlt2 : e.on < listed.size := by omega
            simp only [Array.getD, hlt2, dif_pos] at h2 ⊢
            exact h2
          simp [h3]
      rw [hr] at this
      cases this
  intro fuel
  induction fuel with
  | zero =>
    intro R listed H s a w hlen hp hsz hmem hcl hle m h
    obtain rfl : R = [] := List.eq_nil_of_length_eq_zero (by omega)
    have hready : Region.ready .any ops.toArray listed = [] := by
      rw [List.eq_nil_iff_forall_not_mem]
      intro i hi
      unfold Region.ready at hi
      rw [List.mem_filter] at hi
      have h2 := hi.2
      simp only [Bool.and_eq_true, Bool.not_eq_true'] at h2
      exact absurd ((hmem i).2 ⟨by simpa using hi.1, h2.1⟩) (by simp)
    exact ⟨hready, s, m, by simpa [vcW] using h⟩
  | succ fuel ih =>
    intro R listed H s a w hlen hp hsz hmem hcl hle m h
    refine ⟨fun hr => ?_, fun i hi => ?_⟩
    · obtain rfl := stuck R listed hp hmem hsz hr
      exact ⟨s, m, by simpa [vcW] using h⟩
    · unfold Region.ready at hi
      rw [List.mem_filter] at hi
      obtain ⟨hi1, hi2⟩ := hi
      have hil : i < ops.length := by simpa using hi1
      obtain ⟨o, ho⟩ : ∃ o, ops[i]? = some o := ⟨ops[i], by simp [hil]⟩
      have ho' : ops.toArray[i]? = some o := by simpa using ho
      rw [ho'] at hi2
      simp only [Bool.and_eq_true, Bool.not_eq_true', Option.map_some, Option.getD_some] at hi2
      obtain ⟨hl, hedges⟩ := hi2
      have hiR : i ∈ R := (hmem i).2 ⟨hil, hl⟩
      have hready : ∀ e ∈ o.after.toList, Region.binds .any e = true → e.on ∉ R := fun e he hb hin => by
        rw [← Array.all_toList, List.all_eq_true] at hedges
        have := hedges e he
        rw [hb] at this
        simp only [Bool.not_true, Bool.false_or] at this
        have hk2 := (hmem e.on).1 hin
        have hlt2 : e.on < listed.size := by omega
        simp only [Array.getD, hlt2, dif_pos] at this hk2
        rw [hk2.2] at this
        cases this
      have htabR := tab_R htab hdep hcl i o ho hready
      obtain ⟨pre, post, rfl⟩ := List.append_of_mem hiR
      obtain ⟨hpre, hpost, hpw⟩ := pairwise_mid hp
      have hin : ∀ p ∈ pre.filterMap (ops[·]?), Indep ops.toArray p o ∧ p ∈ ops ∧ (isWild wc p = true → freeF fl o = true) ∧ (isWild wc o = true → freeF fl p = true) := fun p hpp => by
        obtain ⟨k, hk, hkp⟩ := List.mem_filterMap.1 hpp
        refine ⟨depOK_indep hdep (hpre k hk) hkp ho fun e he hb hek => ?_, List.mem_of_getElem? hkp, ordOK_spec hord (hpre k hk) hkp ho fun hb => ?_⟩
        · exact hready e he hb (by rw [hek]; simp [hk])
        · exact htabR k (hpre k hk) hb (by simp [hk])
      have hsplit : (pre ++ i :: post).filterMap (ops[·]?) = pre.filterMap (ops[·]?) ++ o :: post.filterMap (ops[·]?) := by
        rw [List.filterMap_append, List.filterMap_cons, ho]
      rw [hsplit] at h
      have hmem2 : ∀ k, k ∈ pre ++ post ↔ k < ops.length ∧ (listed.setIfInBounds i true).getD k true = false := by
        intro k
        have hk := hmem k
        rw [List.mem_append, List.mem_cons] at hk
        rw [List.mem_append]
        have hlt : i < listed.size := by omega
        have hget : (listed.setIfInBounds i true).getD k true = if k = i then true else listed.getD k true := getD_set _ _ _ _ _ hlt
        rw [hget]
        by_cases e : k = i
        · subst e
          simp only [if_true]
          constructor
          · rintro (h3 | h3)
            · have := hpre _ h3; omega
            · have := hpost _ h3; omega
          · rintro ⟨_, h3⟩; cases h3
        · rw [if_neg e, ← hk]
          constructor
          · rintro (h3 | h3)
            · exact .inl h3
            · exact .inr (.inr h3)
          · rintro (h3 | h3 | h3)
            · exact .inl h3
            · exact absurd h3 e
            · exact .inr h3
      have hsub : ∀ k, k ∈ pre ++ post → k ∈ pre ++ i :: post := fun k hk => by
        rcases List.mem_append.1 hk with h1 | h1
        · simp [h1]
        · simp [h1]
      have hcl2 : ∀ (k : Nat) (o : Oper), ops[k]? = some o → k ∉ pre ++ post → ∀ e ∈ o.after.toList, Region.binds .any e = true → e.on ∉ pre ++ post := fun k o2 ho2 hk e he hb hin2 => by
        by_cases hki : k = i
        · subst hki
          rw [ho] at ho2
          injection ho2 with ho2
          subst ho2
          exact hready e he hb (hsub _ hin2)
        · refine hcl k o2 ho2 (fun hk2 => hk ?_) e he hb (hsub _ hin2)
          rcases List.mem_append.1 hk2 with h1 | h1
          · exact List.mem_append.2 (.inl h1)
          · rcases List.mem_cons.1 h1 with h1 | h1
            · exact absurd h1 hki
            · exact List.mem_append.2 (.inr h1)
      have hlen2 : (pre ++ post).length ≤ fuel := by simp at hlen ⊢; omega
      cases hw : isWild wc o with
      | true =>
        have hin2 : ∀ p ∈ pre.filterMap (ops[·]?), Indep ops.toArray p o ∧ p ∈ ops ∧ freeF fl p = true := fun p hpp => ⟨(hin p hpp).1, (hin p hpp).2.1, (hin p hpp).2.2.2 hw⟩
        have hcan := (gW_uni cx.P GW ops.toArray s o).1 _ (preW_wild hok hw hin2 h hle m)
        refine wpOpIn_mono ?_ (gW_sound hok ho hcan m)
        rintro a' w' ⟨d, H', hout, m'⟩
        have h2 := vcW_wild hw (fun p hpp => ⟨(hin2 p hpp).1, (hin2 p hpp).2.2⟩) h hout
        exact ih (pre ++ post) _ H' (s.outW o d H') a' w' hlen2 hpw (by simpa using hsz) hmem2 hcl2 (by rw [outW_H]; exact Heap.le_refl _) m' (by rw [List.filterMap_append]; exact h2)
      | false =>
        by_cases hf : freeF fl o = true
        · have hpreo := preW_free hok hf (fun p hpp => ⟨(hin p hpp).1, (hin p hpp).2.1⟩) h hle m
          have hcan := gOp_noneF hf ((g_uni cx.P G (hOf fl H o) ops.toArray s o).1 _ hpreo)
          refine wpOpIn_mono ?_ (g_sound (hOf_le hle) hok ho hcan m)
          rintro a' w' ⟨d, A, ⟨rfl, hout⟩, hA, m'⟩
          have h2 := vcW_free hf (fun p hpp => (hin p hpp).1) h hout
          exact ih (pre ++ post) _ H (s.out o d .none) a' w' hlen2 hpw (by simpa using hsz) hmem2 hcl2 (by rw [out_H, Heap.add_none]; exact hle) m' (by rw [List.filterMap_append]; exact h2)
        · have hin2 : ∀ p ∈ pre.filterMap (ops[·]?), Indep ops.toArray p o ∧ p ∈ ops ∧ isWild wc p = false := fun p hpp => by
            refine ⟨(hin p hpp).1, (hin p hpp).2.1, ?_⟩
            cases hp : isWild wc p with
            | false => rfl
            | true => exact absurd ((hin p hpp).2.2.1 hp) hf
          have hcan := (g_uni cx.P G (hOf fl H o) ops.toArray s o).1 _ (preW_calm hok hw hin2 h hle m)
          refine wpOpIn_mono ?_ (g_sound (hOf_le hle) hok ho hcan m)
          rintro a' w' ⟨d, A, hout, hA, m'⟩
          have h2 := vcW_calm hw (fun p hpp => ⟨(hin2 p hpp).1, (hin2 p hpp).2.2⟩) h hout hA
          exact ih (pre ++ post) _ H (s.out o d A) a' w' hlen2 hpw (by simpa using hsz) hmem2 hcl2 (by rw [out_H]; exact Heap.le_trans hle (Heap.le_add hA)) m' (by rw [List.filterMap_append]; exact h2)
theorem W_wild {cx : Cx} {id : Nat} {ops : List Oper} {Q : Exit → St → Prop} {s : St} (fl wc : Option Tmp → Bool) (G : Option Tmp → List D → D → Heap → Prop) (GW : Option Tmp → List D → Heap → D → Heap → Prop) (hm : cx.P.follows .mixedOrders = true)
    (hok : okOps cx.n ops = true) (hdep : depOK ops = true) (htab : tabOK ops (tabOf ops) = true) (hord : ordOK fl wc ops (tabOf ops) = true)
    (h : vcW cx.P fl wc G GW ops.toArray (Q .normal) s.H ops s) : W cx (.region id ops.toArray true) Q s := fun a w m => by
  refine wpIn_region_any hm ?_
  have m' : Match cx s a w.drew := m.go (ev_drew s.H w) m.H.drew
  have e : (List.range ops.length).filterMap (ops[·]?) = ops := by
    rw [filterMap_map (g := fun i => ops.getD i default) fun i hi => by
      have : i < ops.length := by simpa using hi
      simp [List.getD, this]]
    apply List.ext_getElem?
    intro i
    by_cases hi : i < ops.length
    · simp [hi, List.getD]
    · simp [hi]
  refine drawW_any hok hdep htab hord _ (List.range ops.length) _ s.H s a _ (by simp) List.pairwise_lt_range (by simp) (fun i => ?_) (fun k o ho hk => ?_) (Heap.le_refl _) m' (by rw [e]; exact h)
  · simp only [List.mem_range, List.size_toArray]
    constructor
    · intro hi
      refine ⟨hi, ?_⟩
      simp [Array.getD, hi]
    · exact fun h => h.1
  · exact absurd (List.mem_range.2 (List.getElem?_eq_some_iff.1 ho).1) hk
theorem disj_none_eq (H : Heap) : Disj Heap.none H = True := eq_true (Disj.none H)
theorem callOK_of {P : Program} {f : FuncId} {args : List D} {H : Heap} {G : D → Heap → Prop} {K : Heap → D → Heap → Prop} (h : ∀ H'', H.le H'' → Does P f args H'' (K H'')) (hk : ∀ H'' d H', K H'' d H' → ∃ A, Disj A H'' ∧ H' = H''.add A ∧ G d A) : CallOK P f args H G :=
  fun H'' hle => (h H'' hle).mono fun d H' hh => hk H'' d H' hh
theorem match_as {cx : Cx} {s : St} {a : Act} {w : World} (t : Nat) (d : D) (h : ∀ w v, D.is w s.H.others (s.fr t) v → D.is w s.H.others d v) (m : Match cx s a w) : Match cx (s.put (some t) d) a w := by
  refine ⟨m.n, m.df, fun x => ?_, m.H, m.ev⟩
  have ef : (s.put (some t) d).fr x = if x = t then d else s.fr x := rfl
  rw [ef]
  show D.is w s.H.others _ _
  by_cases hx : x = t
  · subst hx
    rw [if_pos rfl]
    exact h w _ (m.fr x)
  · rw [if_neg hx]
    exact m.fr x
theorem W_as {cx : Cx} {c : Code} {Q : Exit → St → Prop} {s : St} (t : Nat) (d : D) (h : ∀ w v, D.is w s.H.others (s.fr t) v → D.is w s.H.others d v) (hw : W cx c Q (s.put (some t) d)) : W cx c Q s := fun a w m => hw a w (match_as t d h m)
theorem nil_seq {w : World} {S : Nat → Prop} {sz : Nat} {v : Value} (h : D.is w S (.val (.slice none 0 0)) v) : D.is w S (.seq sz []) v := by
  have e := is_val h
  subst e
  simp only [D.is]
  exact ⟨none, 0, rfl, Nat.le_refl _, .inl trivial⟩
theorem wpIn_both {F : Fence} {n : Nat} {P : Program} {o : Oper} {a : Act} {w : World} {K K' : Act → World → Prop} {Q Q' : Exit → Act → World → Prop} (h : o.wpIn F n P a w K Q) (hk : ∀ a w, K a w → K' a w) (hq : ∀ e a w, e ≠ .normal → Q e a w → Q' e a w) : o.wpIn F n P a w K' Q' := by
  refine Oper.wpIn_mono (K := K) hk ?_
  unfold Oper.wpIn at *
  refine ⟨h.1, ?_⟩
  have h2 := h.2
  generalize (o.semAt F.round a.eval).run P w = r at *
  cases r with
  | ok x w' =>
    cases x <;> simp only [Oper.uponIn] at h2 ⊢ <;>
      first
        | exact h2
        | exact ⟨h2.1, CallsIn.mono h2.2 (fun e w'' he => by cases e <;> first | exact he | exact hq _ _ _ (by simp) he | (obtain ⟨v, hv, hf⟩ := he; exact ⟨v, hv, hq _ _ _ (by simp) hf⟩))⟩
        | exact ⟨h2.1, RoundIn.mono h2.2 (fun e w'' he => by cases e <;> first | exact he | exact hq _ _ _ (by simp) he | (obtain ⟨v, hv, hf⟩ := he; exact ⟨v, hv, hq _ _ _ (by simp) hf⟩))⟩
  | halt x w' => cases x <;> simp only [Oper.uponIn] at h2 ⊢ <;> first | exact h2 | exact hq _ _ _ (by simp) h2
theorem wpList_both {F : Fence} {n : Nat} {P : Program} {ops : Array Oper} {Q Q' : Exit → Act → World → Prop} {l2 : List Oper} (hn : ∀ a w, Q' .normal a w → wpListIn F n P ops Q l2 a w) (hq : ∀ e a w, e ≠ .normal → Q' e a w → Q e a w) : ∀ {l1 : List Oper} {a : Act} {w : World}, wpListIn F n P ops Q' l1 a w → wpListIn F n P ops Q (l1 ++ l2) a w
  | [], a, w, h => hn a w h
  | o :: l1, a, w, h => by
    simp only [List.cons_append, wpListIn] at h ⊢
    split at h
    · rename_i hw
      rw [if_pos hw]
      exact wpIn_both h (fun a w h => wpList_both hn hq h) hq
    · rename_i hw
      rw [if_neg hw]
      exact ⟨h.1, wpList_both hn hq h.2⟩
theorem WL_app {cx : Cx} {ops : Array Oper} {l1 l2 : List Oper} {Q : Exit → St → Prop} {s : St} (h : WL cx ops l1 (thenQ (WL cx ops l2 Q) Q) s) : WL cx ops (l1 ++ l2) Q s := fun a w m =>
  wpList_both (Q' := QQ cx (thenQ (WL cx ops l2 Q) Q)) (fun a w ⟨s', m', q⟩ => q a w m') (fun e a w he ⟨s', m', q⟩ => ⟨s', m', by cases e <;> first | exact absurd rfl he | exact q⟩) (h a w m)
theorem okOps_take {n k : Nat} {l : List Oper} (h : okOps n l = true) : okOps n (l.take k) = true := by
  unfold okOps at h ⊢
  rw [List.all_eq_true] at h ⊢
  exact fun o ho => h o (List.mem_of_mem_take ho)
theorem WL_cut {cx : Cx} {ops l : List Oper} {Q : Exit → St → Prop} {s : St} (n : Nat) (hok : okOps cx.n ops = true) (hl : okOps cx.n l = true) (h : vcOps cx ops.toArray (thenQ (WL cx ops.toArray (l.drop n) Q) Q) (l.take n) s) : WL cx ops.toArray l Q s := by
  rw [← List.take_append_drop n l]
  exact WL_app (vcOps_sound hok (okOps_take hl) h)
theorem W_cut {cx : Cx} {id : Nat} {ops : List Oper} {Q : Exit → St → Prop} {s : St} (n : Nat) (hok : okOps cx.n ops = true) (h : vcOps cx ops.toArray (thenQ (WL cx ops.toArray (ops.drop n) Q) Q) (ops.take n) s) : W cx (.region id ops.toArray false) Q s :=
  W_region (WL_cut n hok hok h)
def Sl (e : TypeId) (sz : Nat) (els : List (List D)) (d : D) (H0 H : Heap) : Prop :=
  (d = .val (.slice none 0 0) ∧ els = [] ∧ H = H0) ∨ ∃ c o, d = .os c o sz 0 els.length ∧ H0 c = none ∧ H = H0.upd c (.row e o sz els)
theorem Sl.nil (e : TypeId) (sz : Nat) (H : Heap) : Sl e sz [] (.val (.slice none 0 0)) H H := .inl ⟨rfl, rfl, rfl⟩
theorem newsP_of {H : Heap} {sz : Nat} {x : D} {els : List (List D)} {K : List (List D) → Prop} (h : newsP H sz x (· = els)) (hk : K els) : newsP H sz x K := by
  unfold newsP at h ⊢
  split at h
  · exact ⟨h.1, h.2 ▸ hk⟩
  · exact elsP_of h hk
theorem Sl.apV {P : Program} {t xt e : TypeId} {td xd : Ti} {sz by_ : Nat} {zs : List Value} (h1 : tyi P t = some td) (h1' : td.d = .slice e) (h2 : tyi P xt = some xd) (h2' : xd.d.notInt = true) {ed : TD} (h3 : tyi P e = some ⟨ed, sz, by_, some zs⟩) (hzs : zs.length = sz) (hby : by_ ≠ 0)
    {els new : List (List D)} {x y : D} {H0 H : Heap} {K : D → Heap → Prop} (hs : Sl e sz els x H0 H) (hy : newsP H sz y (· = new)) (hb : (els.length + new.length) * by_ ≤ 140737488355328) (hk : ∀ d H', Sl e sz (els ++ new) d H0 H' → K d H') : apV P H t xt x y K := by
  obtain ⟨d0, i0, j0, k0⟩ := td
  simp only at h1'
  subst h1'
  unfold Go.Proofs.YtgfhgeelfaalmaaGreatDoor.apV
  rw [h1, h2]
  simp only
  refine ⟨h2', ?_⟩
  rw [h3]
  simp only
  refine ⟨hzs, hby, newsP_of hy ?_⟩
  rcases hs with ⟨rfl, rfl, rfl⟩ | ⟨c, o, rfl, hc, rfl⟩
  · refine ⟨by simpa using hb, fun e => hk _ _ (.inl ⟨rfl, by simp [e], rfl⟩), fun hne b hbn => hk _ _ (.inr ⟨b, 0, by simp, hbn, by simp⟩)⟩
  · simp only
    refine ⟨trivial, hb, ?_⟩
    rw [Heap.upd_same]
    simp only
    refine ⟨trivial, trivial, trivial, by omega, fun b' o' hb' => hk _ _ (.inr ⟨b', o', by rw [List.length_append], ?_, ?_⟩)⟩
    · rwa [Heap.del_upd_same, Heap.del_none hc] at hb'
    · rw [Heap.del_upd_same, Heap.del_none hc, List.drop_zero, List.take_length]
theorem calmEq {x : D} {p : D → Heap → Prop} : (∀ d A, (A = Heap.none ∧ d = x) → p d A) = p x Heap.none := propext ⟨fun h => h _ _ ⟨rfl, rfl⟩, fun h d A e => by rw [e.1, e.2]; exact h⟩
theorem wildEq {x : D} {y : Heap} {p : D → Heap → Prop} : (∀ d H', (d = x ∧ H' = y) → p d H') = p x y := propext ⟨fun h => h _ _ ⟨rfl, rfl⟩, fun h d A e => by rw [e.1, e.2]; exact h⟩
theorem W_mid {cx : Cx} {x y : Code} {Q : Exit → St → Prop} {s : St} (M : St → Prop) (h1 : W cx x (thenQ M (fun _ _ => False)) s) (h2 : ∀ s, M s → W cx y Q s) : W cx (.seq x y) Q s :=
  W_seq (W_mono h1 fun e s' q => by cases e <;> first | exact h2 s' q | exact q.elim)
theorem frzp_is {H : Heap} {w : World} {b o sz i k : Nat} {ty : TypeId} {els : List (List D)} {el : List D} {v : Value} (hH : HOk w H) (hb : H b = some (.row ty o sz els)) (hi : els[i]? = some el)
    (h0 : D.is w H.others (.ep b o sz i k) v) : D.is w (H.del b).others (.rp (el.drop k)) v := by
  simp only [D.is] at h0 ⊢
  obtain ⟨cs, fr, h1, h2, h3, h4⟩ := hH _ _ hb
  refine ⟨b, _, h0, Heap.del_same _ _, hH.lt hb, ?_⟩
  obtain ⟨vs, g3, g4⟩ := cellsAt_vals (cellsAt_drop (rowsAt_get h4 i el hi).2 k)
  exact cellsAt_of (cellsAll_keep (Kept.less (Heap.del_le H b) w) _ g3) g4
def St.frzp (s : St) (t : Nat) (b k : Nat) (el : List D) : St := (s.withH (s.H.del b)).put (some t) (.rp (el.drop k))
theorem match_frzp {cx : Cx} {s : St} {a : Act} {w : World} {t b o sz i k : Nat} {ty : TypeId} {els : List (List D)} {el : List D} (ht : s.fr t = .ep b o sz i k) (hb : s.H b = some (.row ty o sz els)) (hi : els[i]? = some el) (m : Match cx s a w) : Match cx (s.frzp t b k el) a w := by
  have m2 := m.less (Heap.del_le s.H b)
  refine ⟨m2.n, m2.df, fun x => ?_, m2.H, m2.ev⟩
  have ef : (s.frzp t b k el).fr x = if x = t then .rp (el.drop k) else s.fr x := rfl
  rw [ef]
  show D.is w (s.H.del b).others _ _
  by_cases hx : x = t
  · subst hx
    rw [if_pos rfl]
    have h0 := m.fr x
    rw [ht] at h0
    exact frzp_is m.H hb hi h0
  · rw [if_neg hx]
    exact m2.fr x
theorem W_frzp {cx : Cx} {c : Code} {Q : Exit → St → Prop} {s : St} (t : Nat) {b o sz i k : Nat} {ty : TypeId} {els : List (List D)} {el : List D} (ht : s.fr t = .ep b o sz i k) (hb : s.H b = some (.row ty o sz els)) (hi : els[i]? = some el) (h : W cx c Q (s.frzp t b k el)) : W cx c Q s := fun a w m => h a w (match_frzp ht hb hi m)
end Go.Proofs.YtgfhgeelfaalmaaGreatDoor
namespace Go.Proofs.YtgfhgeelfaalmaaGreatDoor
open Go.RowKit Go.WideShapes
set_option linter.unusedVariables false
set_option linter.unusedSimpArgs false
inductive DT where
  | int (k : IntKind)
  | bool
  | string
  | slice (sz by_ : Nat) (e : DT)
  | struct (fs : List DT)
  | array (n : Nat) (e : DT)
inductive X where
  | int (k : IntKind) (n : Int)
  | bool (b : Bool)
  | str (s : ByteArray)
  | list (sz : Nat) (xs : List X)
  | agg (xs : List X)
instance : Inhabited X := ⟨.bool false⟩
mutual
def X.cs : X → List D
  | .int k n => [.val (.int k n)]
  | .bool b => [.val (.bool b)]
  | .str s => [.val (.string s)]
  | .list sz xs => [.seq sz (X.css xs)]
  | .agg xs => X.csf xs
def X.css : List X → List (List D)
  | [] => []
  | x :: xs => X.cs x :: X.css xs
def X.csf : List X → List D
  | [] => []
  | x :: xs => X.cs x ++ X.csf xs
end
theorem X.css_map : ∀ (xs : List X), X.css xs = xs.map X.cs
  | [] => by simp [X.css]
  | x :: xs => by simp [X.css, X.css_map xs]
def X.d : X → D
  | .int k n => .val (.int k n)
  | .bool b => .val (.bool b)
  | .str s => .val (.string s)
  | .list sz xs => .seq sz (X.css xs)
  | .agg xs => .agg (X.csf xs)
mutual
def DT.ok : DT → X → Prop
  | .int k, x => ∃ n, x = .int k n ∧ (Lit.int k n).wf = true
  | .bool, x => ∃ b, x = .bool b
  | .string, x => ∃ s, x = .str s ∧ s.size ≤ 140737488351232
  | .slice sz by_ e, x => ∃ xs, x = .list sz xs ∧ xs.length * by_ ≤ 140737488351232 ∧ ∀ y ∈ xs, DT.ok e y
  | .struct fs, x => ∃ xs, x = .agg xs ∧ DT.oks fs xs
  | .array n e, x => ∃ xs, x = .agg xs ∧ xs.length = n ∧ ∀ y ∈ xs, DT.ok e y
def DT.oks : List DT → List X → Prop
  | [], xs => xs = []
  | f :: fs, xs => ∃ y ys, xs = y :: ys ∧ DT.ok f y ∧ DT.oks fs ys
end
def contig (P : Program) : Nat → List Field → Nat → Bool
  | o, [], n => o == n
  | o, f :: fs, n => f.offset == o && contig P (o + P.cellsOf f.type) fs n
mutual
def isDT (P : Program) (t : TypeId) : DT → Bool
  | .int k => (match P.underlying t with
    | some (.int k') => decide (k' = k)
    | _ => false)
  | .bool => (match P.underlying t with
    | some .bool => true
    | _ => false)
  | .string => (match P.underlying t with
    | some .string => true
    | _ => false)
  | .slice sz by_ e => (match P.underlying t with
    | some (.slice te) => P.cellsOf te == sz && decide (0 < sz) && P.bytesOf te == by_ && isDT P te e
    | _ => false)
  | .struct ds => (match P.underlying t with
    | some (.struct fs) => contig P 0 fs.toList (P.cellsOf t) && areDT P (fs.toList.map (·.type)) ds
    | _ => false)
  | .array n e => (match P.underlying t with
    | some (.array m te) => m == n && P.cellsOf t == n * P.cellsOf te && isDT P te e
    | _ => false)
def areDT (P : Program) : List TypeId → List DT → Bool
  | [], [] => true
  | t :: ts, d :: ds => isDT P t d && areDT P ts ds
  | _, _ => false
end
section
variable {H : Type} {enc : TypeId × Value → H} {P : Program} {w : World} {base : Nat} {spare : Nat → Bool} {held : Bool}
theorem trod_int {t : TypeId} {k : IntKind} {fuel : Nat} {cs : List Value} {x : DataW H × List MemPlace} (ht : P.underlying t = some (.int k)) (h : DataW.trod enc P w base spare held fuel t cs = some x) : ∃ n, cs = [.int k n] ∧ (Lit.int k n).wf = true := by
  cases fuel with
  | zero => simp [DataW.trod] at h
  | succ m =>
    unfold DataW.trod at h
    rw [ht] at h
    split at h <;> simp_all
theorem trod_bool {t : TypeId} {fuel : Nat} {cs : List Value} {x : DataW H × List MemPlace} (ht : P.underlying t = some .bool) (h : DataW.trod enc P w base spare held fuel t cs = some x) : ∃ b, cs = [.bool b] := by
  cases fuel with
  | zero => simp [DataW.trod] at h
  | succ m =>
    unfold DataW.trod at h
    rw [ht] at h
    split at h <;> simp_all
theorem trod_str {t : TypeId} {fuel : Nat} {cs : List Value} {x : DataW H × List MemPlace} (ht : P.underlying t = some .string) (h : DataW.trod enc P w base spare held fuel t cs = some x) : ∃ s, cs = [.string s] ∧ x.1 = .lit (.string s.data.toList) := by
  cases fuel with
  | zero => simp [DataW.trod] at h
  | succ m =>
    unfold DataW.trod at h
    rw [ht] at h
    split at h <;> simp_all
    rw [← h.2]
theorem weightsAll_mem {e : TypeId} : ∀ {l : List (DataW H)}, (DataW.weightsAll P e l).all (· ≤ reachBytes) = true → ∀ d ∈ l, (d.weights P e).all (· ≤ reachBytes) = true
  | [], _, d, hd => by cases hd
  | d0 :: l, h, d, hd => by
    simp only [DataW.weightsAll, List.all_append, Bool.and_eq_true] at h
    rcases List.mem_cons.1 hd with rfl | hd
    · exact h.1
    · exact weightsAll_mem h.2 d hd
end
theorem cellsAll_app {w : World} {S : Nat → Prop} {cs ds : List D} {vs : List Value} {n : Nat} (h1 : cellsAll w S cs (vs.take n)) (h2 : cellsAll w S ds (vs.drop n)) : cellsAll w S (cs ++ ds) vs := by
  rw [← List.take_append_drop n vs]
  exact cellsAll_append h1 h2
section
variable {H : Type} {enc : TypeId × Value → H} {P : Program} {w : World} {base : Nat} {spare : Nat → Bool} {held : Bool} {S : Nat → Prop} (hS : ∀ b, S b)
theorem choose_list {α : Type} {n : Nat} {p : Nat → α → Prop} (h : ∀ i, i < n → ∃ x, p i x) : ∃ l : List α, l.length = n ∧ ∀ i x, l[i]? = some x → p i x := by
  induction n with
  | zero => exact ⟨[], rfl, fun i x hx => by cases hx⟩
  | succ n ih =>
    obtain ⟨l, hl, hp⟩ := ih fun i hi => h i (by omega)
    obtain ⟨x, hx⟩ := h n (by omega)
    refine ⟨l ++ [x], by simp [hl], fun i y hy => ?_⟩
    by_cases hi : i < l.length
    · rw [List.getElem?_append_left hi] at hy
      exact hp i y hy
    · rw [List.getElem?_append_right (by omega)] at hy
      have hi2 : i - l.length = 0 := by
        have := (List.getElem?_eq_some_iff.1 hy).1
        simp at this
        omega
      rw [hi2] at hy
      simp only [List.getElem?_cons_zero, Option.some.injEq] at hy
      subst hy
      rw [show i = n by omega]
      exact hx
def Good (P : Program) (w : World) (S : Nat → Prop) (dt : DT) (cs : List Value) : Prop := ∃ x, dt.ok x ∧ cellsAll w S x.cs cs
theorem array_good {e : DT} {c : Nat} : ∀ {n : Nat} {cs : List Value}, cs.length = n * c → (∀ i, i < n → Good P w S e ((cs.drop (i * c)).take c)) → ∃ xs : List X, xs.length = n ∧ (∀ y ∈ xs, e.ok y) ∧ cellsAll w S (X.csf xs) cs
  | 0, cs, hl, h => ⟨[], rfl, fun y hy => (by cases hy), by
      have : cs = [] := List.eq_nil_of_length_eq_zero (by omega)
      subst this
      simp only [X.csf, cellsAll]⟩
  | n + 1, cs, hl, h => by
    obtain ⟨x, h1, h2⟩ := h 0 (by omega)
    rw [Nat.zero_mul, List.drop_zero] at h2
    have hl2 : (cs.drop c).length = n * c := by rw [List.length_drop, hl, Nat.succ_mul]; omega
    obtain ⟨xs, h3, h4, h5⟩ := array_good (cs := cs.drop c) hl2 fun i hi => by
      have := h (i + 1) (by omega)
      rw [List.drop_drop, show c + i * c = (i + 1) * c by rw [Nat.succ_mul]; omega]
      exact this
    refine ⟨x :: xs, by simp [h3], ?_, ?_⟩
    · intro y hy
      rcases List.mem_cons.1 hy with rfl | hy
      · exact h1
      · exact h4 y hy
    · simp only [X.csf]
      exact cellsAll_app h2 h5
theorem fields_good : ∀ {fs : List Field} {ds : List DT} {o n : Nat} {cs : List Value}, contig P o fs n = true → cs.length = n → fs.length = ds.length → (∀ (i : Nat) (f : Field) d, fs[i]? = some f → ds[i]? = some d → Good P w S d ((cs.drop f.offset).take (P.cellsOf f.type))) → ∃ xs : List X, DT.oks ds xs ∧ cellsAll w S (X.csf xs) (cs.drop o)
  | [], ds, o, n, cs, hc, hl, hlen, h => by
    cases ds with
    | cons _ _ => cases hlen
    | nil =>
      simp only [contig, beq_iff_eq] at hc
      refine ⟨[], by simp only [DT.oks], ?_⟩
      rw [List.drop_eq_nil_of_le (by omega)]
      simp only [X.csf, cellsAll]
  | f :: fs, ds, o, n, cs, hc, hl, hlen, h => by
    cases ds with
    | nil => cases hlen
    | cons d ds =>
      simp only [contig, Bool.and_eq_true, beq_iff_eq] at hc
      obtain ⟨ho, hc⟩ := hc
      obtain ⟨x, h1, h2⟩ := h 0 f d rfl rfl
      obtain ⟨xs, h3, h4⟩ := fields_good (cs := cs) hc hl (by simpa using hlen) fun i f' d' hf hd => h (i + 1) f' d' hf hd
      refine ⟨x :: xs, by simp only [DT.oks]; exact ⟨x, xs, rfl, h1, h3⟩, ?_⟩
      simp only [X.csf]
      rw [ho] at h2
      rw [← List.drop_drop] at h4
      exact cellsAll_app h2 h4
theorem areDT_get : ∀ {ts : List TypeId} {ds : List DT}, areDT P ts ds = true → ts.length = ds.length ∧ ∀ (i : Nat) t d, ts[i]? = some t → ds[i]? = some d → isDT P t d = true ∧ d ∈ ds
  | [], [], _ => ⟨rfl, fun i t d h => by cases h⟩
  | t :: ts, d :: ds, h => by
    simp only [areDT, Bool.and_eq_true] at h
    obtain ⟨h1, h2⟩ := areDT_get h.2
    refine ⟨by simp [h1], fun i t' d' ht hd => ?_⟩
    cases i with
    | zero =>
      simp only [List.getElem?_cons_zero, Option.some.injEq] at ht hd
      subst ht hd
      exact ⟨h.1, List.mem_cons_self⟩
    | succ i =>
      obtain ⟨h3, h4⟩ := h2 i t' d' (by simpa using ht) (by simpa using hd)
      exact ⟨h3, List.mem_cons_of_mem _ h4⟩
  | [], _ :: _, h => by simp [areDT] at h
  | _ :: _, [], h => by simp [areDT] at h
theorem weightsEach_get : ∀ {ts : List TypeId} {ds : List (DataW H)}, (DataW.weightsEach P ts ds).all (· ≤ reachBytes) = true → ∀ (i : Nat) t d, ts[i]? = some t → ds[i]? = some d → (d.weights P t).all (· ≤ reachBytes) = true
  | [], _, _, i, t, d, h, _ => by cases h
  | _ :: _, [], _, i, t, d, _, h => by cases h
  | t :: ts, d :: ds, h, i, t', d', ht, hd => by
    simp only [DataW.weightsEach, List.all_append, Bool.and_eq_true] at h
    cases i with
    | zero =>
      simp only [List.getElem?_cons_zero, Option.some.injEq] at ht hd
      subst ht hd
      exact h.1
    | succ i => exact weightsEach_get h.2 i t' d' (by simpa using ht) (by simpa using hd)
include hS in
theorem trod_good : ∀ (fuel : Nat) (dt : DT) (t : TypeId) (cs : List Value) (x : DataW H × List MemPlace), isDT P t dt = true → DataW.trod enc P w base spare held fuel t cs = some x → (x.1.weights P t).all (· ≤ reachBytes) = true → Good P w S dt cs := by
  intro fuel
  induction fuel with
  | zero => intro dt t cs x _ h; simp [DataW.trod] at h
  | succ fuel ih =>
    intro dt t cs x hdt h hw
    cases dt with
    | int k =>
      unfold isDT at hdt
      split at hdt
      · rename_i k' ht
        have := of_decide_eq_true hdt
        subst this
        obtain ⟨n, rfl, hn⟩ := trod_int ht h
        refine ⟨.int k' n, by simp only [DT.ok]; exact ⟨n, rfl, hn⟩, ?_⟩
        simp only [X.cs, cellsAll, D.is]
        exact ⟨_, _, rfl, rfl, rfl, rfl⟩
      · cases hdt
    | bool =>
      unfold isDT at hdt
      split at hdt
      · rename_i ht
        obtain ⟨b, rfl⟩ := trod_bool ht h
        refine ⟨.bool b, by simp only [DT.ok]; exact ⟨b, rfl⟩, ?_⟩
        simp only [X.cs, cellsAll, D.is]
        exact ⟨_, _, rfl, rfl, rfl, rfl⟩
      · cases hdt
    | string =>
      unfold isDT at hdt
      split at hdt
      · rename_i ht
        obtain ⟨s, rfl, hx⟩ := trod_str ht h
        rw [hx] at hw
        simp only [DataW.weights, List.all_cons, List.all_nil, Bool.and_true, decide_eq_true_eq] at hw
        have hw2 : s.size ≤ reachBytes := by show s.data.size ≤ reachBytes; rw [← Array.length_toList]; exact hw
        refine ⟨.str s, by simp only [DT.ok]; exact ⟨s, rfl, hw2⟩, ?_⟩
        simp only [X.cs, cellsAll, D.is]
        exact ⟨_, _, rfl, rfl, rfl, rfl⟩
      · cases hdt
    | slice sz by_ e =>
      unfold isDT at hdt
      split at hdt
      · rename_i te ht
        simp only [Bool.and_eq_true, beq_iff_eq, decide_eq_true_eq] at hdt
        obtain ⟨⟨⟨hsz, hpos⟩, hby⟩, hde⟩ := hdt
        rcases DataW.trod_slice ht h with ⟨rfl, rfl⟩ | ⟨a, len, cap, elems, rest, n, hn, rfl, rfl, hb, hl, hm, hlen, hel, hsp, hns⟩
        · refine ⟨.list sz [], by simp only [DT.ok]; exact ⟨[], rfl, by simp, fun y hy => by cases hy⟩, ?_⟩
          simp only [X.cs, X.css, cellsAll, D.is]
          exact ⟨_, _, rfl, rfl, ⟨none, 0, rfl, Nat.le_refl _, .inl trivial⟩, rfl⟩
        · have hn' : n = fuel := by omega
          subst hn'
          simp only [DataW.weights, ht, List.all_cons, List.all_append, Bool.and_eq_true, decide_eq_true_eq, List.length_map] at hw
          obtain ⟨hw1, hw2, _⟩ := hw
          rw [hby, hlen] at hw1
          have hgood : ∀ i, i < len → ∃ c, w.cells? base (a.add (i * sz)) sz = some c ∧ Good P w S e c := fun i hi => by
            have h1 := hel i hi
            rw [hsz, List.getElem?_eq_getElem (by omega)] at h1
            obtain ⟨c, h2, h3⟩ := Option.bind_eq_some_iff.1 h1
            exact ⟨c, h2, ih e te c _ hde h3 (weightsAll_mem hw2 _ (List.mem_map.2 ⟨_, List.getElem_mem (by omega), rfl⟩))⟩
          obtain ⟨xs, hxl, hxs⟩ := choose_list (n := len) (p := fun i x => DT.ok e x ∧ ∃ c, w.cells? base (a.add (i * sz)) sz = some c ∧ cellsAll w S x.cs c) fun i hi => by
            obtain ⟨c, h1, x, h2, h3⟩ := hgood i hi
            exact ⟨x, h2, c, h1, h3⟩
          refine ⟨.list sz xs, ?_, ?_⟩
          · simp only [DT.ok]
            refine ⟨xs, rfl, ?_, fun y hy => ?_⟩
            · have : xs.length * by_ ≤ (len + rest.length) * by_ := Nat.mul_le_mul_right _ (by omega)
              exact Nat.le_trans this hw1
            · obtain ⟨i, hi⟩ := List.getElem?_of_mem hy
              exact (hxs i y hi).1
          · have hrow : X.css xs = [] ∨ ∃ b o, some a = some ⟨b, o, none⟩ ∧ S b ∧ b < w.heap.size ∧ rowsAt w S b sz o (X.css xs) := by
              rcases Nat.eq_zero_or_pos len with h0 | h0
              · left
                have : xs = [] := List.eq_nil_of_length_eq_zero (by omega)
                rw [this]; rfl
              · right
                obtain ⟨c0, hc0, _⟩ := hgood 0 h0
                obtain ⟨_, hc1, hc2⟩ := World.cells?_some hc0
                have hcell0 := hc2 0 hpos
                rw [List.getElem?_eq_getElem (by omega), Nat.zero_mul] at hcell0
                obtain ⟨b, o, sp⟩ := a
                have hspt : sp = none := by simpa [Addr.add] using World.cell?_spot hcell0
                subst hspt
                refine ⟨b, o, rfl, hS b, by simpa [Addr.add] using cell_lt hcell0, ?_⟩
                refine rowsAt_of fun j el hj => ?_
                rw [X.css_map, List.getElem?_map] at hj
                obtain ⟨x, hx, rfl⟩ := Option.map_eq_some_iff.1 hj
                obtain ⟨_, c, hc, hall⟩ := hxs j x hx
                obtain ⟨_, hd1, hd2⟩ := World.cells?_some hc
                refine ⟨by rw [← cellsAll_length hall, hd1], cellsAt_of hall fun q v hq => ?_⟩
                have hqlt : q < sz := by rw [← hd1]; exact (List.getElem?_eq_some_iff.1 hq).1
                have := hd2 q hqlt
                rw [hq] at this
                rw [← this, Addr.add_lit, Addr.add_lit]
            simp only [X.cs, cellsAll, D.is]
            have hlx : (X.css xs).length = len := by rw [X.css_map, List.length_map, hxl]
            refine ⟨_, _, rfl, rfl, ⟨some a, cap, by rw [hlx], by rw [hlx]; exact hl, hrow⟩, rfl⟩
      · cases hdt
    | struct ds =>
      unfold isDT at hdt
      split at hdt
      · rename_i fs ht
        simp only [Bool.and_eq_true] at hdt
        obtain ⟨hc, ha⟩ := hdt
        obtain ⟨xs, n, hn, rfl, hlen, hxl, hx⟩ := DataW.trod_struct ht h
        have hn' : n = fuel := by omega
        subst hn'
        obtain ⟨ha1, ha2⟩ := areDT_get ha
        simp only [DataW.weights, ht] at hw
        obtain ⟨ys, h1, h2⟩ := fields_good (P := P) (w := w) (S := S) (cs := cs) hc hlen (by simpa using ha1) fun i f d hf hd => by
          have hf' : fs[i]? = some f := by simpa using hf
          have hi : i < xs.length := by
            have := (Array.getElem?_eq_some_iff.1 hf').1
            omega
          have h3 := hx i f hf'
          rw [List.getElem?_eq_getElem hi] at h3
          have ht' : (fs.toList.map (·.type))[i]? = some f.type := by rw [List.getElem?_map, hf]; rfl
          exact ih d f.type _ _ (ha2 i f.type d ht' hd).1 h3 (weightsEach_get hw i f.type _ ht' (by rw [List.getElem?_map, List.getElem?_eq_getElem hi]; rfl))
        exact ⟨.agg ys, by simp only [DT.ok]; exact ⟨ys, rfl, h1⟩, by simpa only [X.cs, List.drop_zero] using h2⟩
      · cases hdt
    | array m e =>
      unfold isDT at hdt
      split at hdt
      · rename_i m' te ht
        simp only [Bool.and_eq_true, beq_iff_eq] at hdt
        obtain ⟨⟨rfl, hc⟩, hde⟩ := hdt
        obtain ⟨xs, n, hn, rfl, hlen, hxl, hx⟩ := DataW.trod_array ht h
        have hn' : n = fuel := by omega
        subst hn'
        simp only [DataW.weights, ht] at hw
        obtain ⟨ys, h1, h2, h3⟩ := array_good (P := P) (w := w) (S := S) (e := e) (c := P.cellsOf te) (n := m') (cs := cs) (by rw [hlen, hc]) fun i hi => by
          have h4 := hx i hi
          rw [List.getElem?_eq_getElem (by omega)] at h4
          exact ih e te _ _ hde h4 (weightsAll_mem hw _ (List.mem_map.2 ⟨_, List.getElem_mem (by omega), rfl⟩))
        exact ⟨.agg ys, by simp only [DT.ok]; exact ⟨ys, rfl, h1, h2⟩, by simpa only [X.cs] using h3⟩
      · cases hdt
end
theorem cells_one {w : World} {S : Nat → Prop} {d : D} {v : Value} {cs : List D} (hc : cs = [d]) (h : cellsAll w S cs v.cells.toList) (hv : v.cells = #[v]) : D.is w S d v := by
  subst hc
  rw [hv] at h
  simp only [cellsAll] at h
  obtain ⟨u, us, h1, _, h2, h3⟩ := h
  subst h3
  simp only [List.cons.injEq] at h1
  rw [h1.1]
  exact h2
theorem open_X {H : Type} {enc : TypeId × Value → H} {P : Program} {w : World} {r : Reach} {base : Nat} {t : TypeId} {v : Value} {d : DataW H} {p : List MemPlace} (dt : DT) (hdt : isDT P t dt = true)
    (hok : Value.okWide P w r base t v) (h : DataW.Trod enc P w 0 (fun _ => true) true t v d p) (hw : (d.weights P t).all (· ≤ reachBytes) = true) : ∃ x : X, dt.ok x ∧ D.is w Heap.none.others x.d v := by
  obtain ⟨fuel, h⟩ := h
  obtain ⟨x, h1, h2⟩ := trod_good (S := Heap.none.others) (fun _ => rfl) fuel dt t v.cells.toList (d, p) hdt h hw
  refine ⟨x, h1, ?_⟩
  cases dt with
  | int k =>
    unfold isDT at hdt
    split at hdt
    · rename_i ht
      obtain ⟨n, rfl⟩ := okWide_int ht hok
      simp only [DT.ok] at h1
      obtain ⟨m, rfl, _⟩ := h1
      exact cells_one rfl h2 rfl
    · cases hdt
  | bool =>
    unfold isDT at hdt
    split at hdt
    · rename_i ht
      obtain ⟨n, rfl⟩ := okWide_bool ht hok
      simp only [DT.ok] at h1
      obtain ⟨m, rfl⟩ := h1
      exact cells_one rfl h2 rfl
    · cases hdt
  | string =>
    unfold isDT at hdt
    split at hdt
    · rename_i ht
      obtain ⟨n, rfl⟩ := okWide_string ht hok
      simp only [DT.ok] at h1
      obtain ⟨m, rfl, _⟩ := h1
      exact cells_one rfl h2 rfl
    · cases hdt
  | slice sz by_ e =>
    unfold isDT at hdt
    split at hdt
    · rename_i ht
      obtain ⟨a, len, cap, rfl⟩ := okWide_slice ht hok
      simp only [DT.ok] at h1
      obtain ⟨m, rfl, _⟩ := h1
      exact cells_one rfl h2 rfl
    · cases hdt
  | struct ds =>
    unfold isDT at hdt
    split at hdt
    · rename_i fs ht
      simp only [Value.okWide, ht] at hok
      obtain ⟨cs, rfl, _⟩ := hok
      simp only [DT.ok] at h1
      obtain ⟨m, rfl, _⟩ := h1
      simp only [X.d, D.is]
      exact ⟨cs.toList, by simp, by simpa only [X.cs, Value.cells] using h2⟩
    · cases hdt
  | array n e =>
    unfold isDT at hdt
    split at hdt
    · rename_i m te ht
      simp only [Value.okWide, ht] at hok
      obtain ⟨cs, rfl, _⟩ := hok
      simp only [DT.ok] at h1
      obtain ⟨m, rfl, _⟩ := h1
      simp only [X.d, D.is]
      exact ⟨cs.toList, by simp, by simpa only [X.cs, Value.cells] using h2⟩
    · cases hdt
end Go.Proofs.YtgfhgeelfaalmaaGreatDoor
