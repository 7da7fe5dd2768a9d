/- A program logic over descriptions of values. Part 10: append. -/
import Derived.Test.YtdcnpkpibbefhaaL9
namespace Go.Proofs.Ytdcnpkpibbefhaa
open Go.RowKit
set_option linter.unusedVariables false
set_option linter.unusedSimpArgs false

def TD.notInt : TD → Bool
  | .int _ => false
  | _ => true
/-- What is appended: the elements of a slice, the bytes of a string. -/
def newsP (H : Heap) (sz : Nat) (x : D) (K : List (List D) → Prop) : Prop :=
  match x with
  | .val (.string s) => sz = 1 ∧ K (s.data.toList.map bD)
  | x => elsP H sz x K
theorem cellsAll_bytes {w : World} {S : Nat → Prop} : ∀ (l : List UInt8), cellsAll w S (l.map bD).flatten (l.map fun b => .int .u8 (b.toNat : Int))
  | [] => by simp [cellsAll]
  | c :: l => by
    simp only [List.map_cons, List.flatten_cons, bD, List.singleton_append, cellsAll, D.is]
    exact ⟨_, _, rfl, rfl, rfl, cellsAll_bytes l⟩
theorem newsP_spec {P : Program} {H : Heap} {w : World} (hH : HOk w H) {sz : Nat} {x : D} {v : Value} {K : List (List D) → Prop} (h : newsP H sz x K) (hx : D.is w H.others x v) :
    ∃ els us, K els ∧ (∀ e ∈ els, e.length = sz) ∧ cellsAll w H.others els.flatten us ∧ us.length = els.length * sz ∧ (∀ W, (Builtin.lenOf v).run P W = .ok els.length W) ∧ ∀ W : World, W.heap = w.heap → (Builtin.firstCells sz els.length v).run P W = .ok ⟨us⟩ W := by
  unfold newsP at h
  split at h
  · rename_i s
    obtain ⟨rfl, h⟩ := h
    have e := is_val hx
    subst e
    have hsz : s.size = s.data.toList.length := Array.length_toList.symm
    refine ⟨_, s.data.toList.map fun b => .int .u8 (b.toNat : Int), h, fun e he => ?_, cellsAll_bytes _, by rw [List.length_map, List.length_map, Nat.mul_one], fun W => ?_, fun W _ => ?_⟩
    · obtain ⟨c, _, rfl⟩ := List.mem_map.1 he; rfl
    · rw [List.length_map, ← hsz]; rfl
    · have hl : (List.map bD s.data.toList).length = s.size := by rw [List.length_map]; exact hsz.symm
      rw [hl]
      simp only [Builtin.firstCells, Sem.run_pure]
      congr 1
      apply Array.ext'
      simp only [Array.toList_map]
      rw [show (s.extract 0 s.size) = s from ByteArray.ext (by rw [ByteArray.data_extract]; exact Array.extract_size)]
  · obtain ⟨els, A, c, hk, rfl, hle, hrow⟩ := elsP_spec hH h hx
    rcases hrow with rfl | ⟨b, o, rfl, hb, hr⟩
    · refine ⟨[], [], hk, by simp, by simp [cellsAll], by simp, fun W => rfl, fun W _ => ?_⟩
      cases A with
      | none => rfl
      | some a => simp only [Builtin.firstCells, List.length_nil, Nat.zero_mul]; rfl
    · obtain ⟨us, h1, h2, h3⟩ := rowsAt_vals hr
      refine ⟨els, us, hk, rowsAt_sized hr, h1, h2, fun W => rfl, fun W hW => ?_⟩
      simp only [Builtin.firstCells]
      rw [← h2]
      have := run_loadCells_list (P := P) W ⟨b, o, none⟩ us (fun j v hj => by
        rw [Addr.add_lit, ← h3 j v hj]
        simp only [World.cell?, hW])
      rw [this]
theorem run_append_fit {P : Program} {w : World} {t xt ty e : TypeId} {dx : TypeDesc} {E : Ti} (ht : P.underlying t = some (.slice e)) (hxt : P.underlying xt = some dx) (hni : (tdOf dx).notInt = true)
    (hE : tyi P e = some E) (a : Addr) (n c m : Nat) (x : Value) (us : List Value) (hlen : ∀ W, (Builtin.lenOf x).run P W = .ok m W) (hfirst : ∀ W : World, W.heap = w.heap → (Builtin.firstCells E.size m x).run P W = .ok ⟨us⟩ W)
    (hle : n + m ≤ c) (w' : World) (hst : (storeCells (a.add (n * E.size)) us).run P w = .ok () w') : (Builtin.append_ #[t, xt] ty #[.slice (some a) n c, x]).run P w = .ok (.slice (some a) (n + m) c) w' := by
  unfold Builtin.append_
  cases dx <;> first
    | (cases hni; done)
    | (simp only [List.getElem?_toArray, List.getElem?_cons_zero, List.getElem?_cons_succ, Sem.run_bind, run_under ht, run_under hxt, Result.andThen, run_size hE, Bool.false_eq_true, if_false, hlen w, Sem.run_pure, Bool.not_false, if_true, false_or, if_pos hle, hfirst w rfl, hst])
/-- The raw run of append. -/
theorem run_append_raw {P : Program} {w : World} {t xt ty e : TypeId} {dx : TypeDesc} {E : Ti} {zs : List Value} (ht : P.underlying t = some (.slice e)) (hxt : P.underlying xt = some dx) (hni : (tdOf dx).notInt = true)
    (hE : tyi P e = some E) (hz : E.zero = some zs) (A : Option Addr) (n c m : Nat) (x : Value) (us old : List Value) (hlen : ∀ W, (Builtin.lenOf x).run P W = .ok m W) (hfirst : ∀ W : World, W.heap = w.heap → (Builtin.firstCells E.size m x).run P W = .ok ⟨us⟩ W)
    (hold : ∀ W : World, W.heap = w.heap → (Builtin.firstCells E.size n (.slice A n c)).run P W = .ok ⟨old⟩ W) (hb0 : E.bytes ≠ 0) (hb : (n + m) * E.bytes ≤ 140737488355328) :
    (n + m ≤ c → ∀ w', (match A with | some a => storeCells (a.add (n * E.size)) us | none => pure () : Sem Unit).run P w = .ok () w' → (Builtin.append_ #[t, xt] ty #[.slice A n c, x]).run P w = .ok (.slice A (n + m) c) w') ∧
    (c < n + m → ∃ cap rest, n + m ≤ cap ∧ (Builtin.append_ #[t, xt] ty #[.slice A n c, x]).run P w = .ok (.slice (some ⟨w.heap.size, 0, none⟩) (n + m) cap) (w.drew.alloc (Obj.cells ⟨old ++ us ++ rest⟩ e)) ∧ rest.length = (cap - (n + m)) * zs.length) := by
  obtain ⟨i, b1, b2, b3, b4, b5⟩ := run_info hE w
  have binfo : ∀ W, (typeInfo e).run P W = .ok i W := fun W => by
    obtain ⟨i', c1, _, _, _, c5⟩ := run_info hE W
    rw [b5] at c5
    injection c5 with c5
    subst c5
    exact c1
  constructor
  · intro hle w' hst
    unfold Builtin.append_
    cases dx <;> first
      | (cases hni; done)
      | (simp only [List.getElem?_toArray, List.getElem?_cons_zero, List.getElem?_cons_succ, Sem.run_bind, run_under ht, run_under hxt, Result.andThen, run_size hE, Bool.false_eq_true, if_false, hlen w, Sem.run_pure, Bool.not_false, if_true, false_or, if_pos hle, hfirst w rfl]
         cases A with
         | none =>
           simp only [Sem.run_pure] at hst ⊢
           injection hst with _ hst
           subst hst
           rfl
         | some a =>
           simp only at hst ⊢
           simp only [Sem.run_bind, hst, Result.andThen, Sem.run_pure])
  · intro hlt
    have hn0 : ¬ (n + m ≤ c) := by omega
    have hn1 : ¬ (((n + m : Nat) : Int) > IntKind.i64.max ∧ i.bytes = 0) := by
      rintro ⟨h1, h2⟩
      exact hb0 (b3.trans h2)
    have hfit := growslice_fits hlt hb
    have hn2 : ¬ (Builtin.nextslicecap (n + m) c * i.bytes > 2 ^ 48) := by rw [← b3]; omega
    obtain ⟨cap, hcap⟩ : ∃ cap, cap = (Question.appendCap (n + m) c e).cut (w.tape w.drawn (.appendCap (n + m) c e)) := ⟨_, rfl⟩
    have hge : n + m ≤ cap := by rw [hcap]; simp [Question.cut]
    have hchoose : (choose (.appendCap (n + m) c e)).run P w = .ok cap w.drew := by
      rw [hcap]
      simp only [choose, Sem.run, Question.forced]
      rfl
    have hask : ∀ k W, (askRoom k).run P W = .ok () W := fun k W => by
      unfold askRoom
      split <;> rfl
    obtain ⟨z, hz1, hz2⟩ := run_zero hE hz w.drew
    refine ⟨cap, (Builtin.zeroCells z.cells (cap - (n + m))).toList, hge, ?_, by simp [Builtin.zeroCells, ← hz2]⟩
    have earr : (⟨old⟩ : Array Value) ++ ⟨us⟩ ++ Builtin.zeroCells z.cells (cap - (n + m)) = ⟨old ++ us ++ (Builtin.zeroCells z.cells (cap - (n + m))).toList⟩ := Array.ext' (by simp)
    unfold Builtin.append_
    cases dx <;> first
      | (cases hni; done)
      | (simp only [List.getElem?_toArray, List.getElem?_cons_zero, List.getElem?_cons_succ, Sem.run_bind, run_under ht, run_under hxt, Result.andThen, run_size hE, Bool.false_eq_true, if_false, hlen w, Sem.run_pure, Bool.not_false, if_true, false_or, if_neg hn0, binfo, if_neg hn1, if_neg hn2, hchoose, hask, hold w.drew rfl, hfirst w.drew rfl, hz1, newRow, newObj, Sem.run]
         rw [earr]
         rfl)

def apV (P : Program) (H : Heap) (t xt : TypeId) (s x : D) (K : D → Heap → Prop) : Prop :=
  match tyi P t, tyi P xt with
  | some ⟨.slice e, _, _, _⟩, some X => X.d.notInt = true ∧ (match tyi P e with
    | some ⟨_, sz, by_, some zs⟩ => zs.length = sz ∧ by_ ≠ 0 ∧ newsP H sz x fun els => (match s with
      | .val (.slice none 0 0) => els.length * by_ ≤ 140737488355328 ∧ (els = [] → K (.val (.slice none 0 0)) H) ∧ (els ≠ [] → ∀ b, H b = none → K (.os b 0 sz 0 els.length) (H.upd b (.row e 0 sz els)))
      | .emp => els.length * by_ ≤ 140737488355328 ∧ (els = [] → K .emp H) ∧ (els ≠ [] → ∀ b, H b = none → K (.os b 0 sz 0 els.length) (H.upd b (.row e 0 sz els)))
      | .os b o sz' k n => sz' = sz ∧ (n + els.length) * by_ ≤ 140737488355328 ∧ (match H b with
        | some (.row ty o' sz'' els0) => ty = e ∧ o' = o ∧ sz'' = sz ∧ k + n ≤ els0.length ∧ ∀ b' o', (H.del b) b' = none → K (.os b' o' sz 0 (n + els.length)) ((H.del b).upd b' (.row e o' sz ((els0.drop k).take n ++ els)))
        | _ => False)
      | .val (.slice (some ⟨b, o, none⟩) n c) => n + els.length ≤ c ∧ (match H b with
        | some (.row ty o' sz'' els0) => o' = o ∧ sz'' = sz ∧ c ≤ els0.length ∧ K (.val (.slice (some ⟨b, o, none⟩) (n + els.length) c)) (H.upd b (.row ty o sz (els0.take n ++ els ++ els0.drop (n + els.length))))
        | _ => False)
      | _ => False)
    | _ => False)
  | _, _ => False
theorem Heap.del_upd (H : Heap) (b : Nat) (x : HObj) : (H.del b).upd b x = H.upd b x := funext fun c => by
  by_cases h : c = b
  · subst h; rw [Heap.upd_same, Heap.upd_same]
  · rw [Heap.upd_ne h, Heap.upd_ne h, Heap.del_ne h]
theorem Heap.del_le (H : Heap) (b : Nat) : (H.del b).le H := fun c x h => by
  by_cases e : c = b
  · subst e; rw [Heap.del_same] at h; cases h
  · rw [Heap.del_ne e] at h; exact h
theorem HOk.less {H H' : Heap} {w : World} (h : HOk w H) (hle : H'.le H) : HOk w H' := by
  have m : Match ⟨default, none, 0, H, w⟩ ⟨fun _ => .val undef, H, []⟩ { tmps := #[], defers := [] } w := ⟨rfl, rfl, fun t => by simp only [D.is]; rfl, h, Ev.refl _ _⟩
  exact (m.less hle).H
theorem ev_drew (H : Heap) (w : World) : Ev H w H w.drew := ⟨rfl, rfl, rfl, Nat.le_refl _, fun _ _ h => ⟨rfl, h⟩, fun _ _ _ fr h => ⟨_, fr, h, rfl⟩⟩
theorem HOk.drew {H : Heap} {w : World} (h : HOk w H) : HOk w.drew H := fun b x hb => (ev_drew H w).objAt rfl (h b x hb)
/-- A new row whose first cells are known. -/
theorem row_alloc2 {H : Heap} {w : World} (hH : HOk w H) (t : TypeId) (sz : Nat) (els : List (List D)) (vs us : List Value) (hv : cellsAll w H.others els.flatten vs) (hsz : ∀ el ∈ els, el.length = sz) (hlen : vs.length = els.length * sz) :
    HOk (w.alloc (Obj.cells ⟨vs ++ us⟩ t)) (H.upd w.heap.size (.row t 0 sz els)) := by
  refine hH.alloc ⟨⟨vs ++ us⟩, (0, 0), heap_alloc_new w _, free0 _, by simp; omega, ?_⟩
  refine rowsAt_block hsz (cellsAll_keep (ev_alloc _ _ hH).kept _ hv) fun j v hj => ?_
  rw [cell_of_row _ _ _ _ _ _ (heap_alloc_new w _), Nat.zero_add]
  have hlt := (List.getElem?_eq_some_iff.1 hj).1
  simp only [List.getElem?_toArray]
  rw [List.getElem?_append_left hlt]
  exact hj
set_option maxHeartbeats 1000000 in
theorem run_apV {P : Program} {H : Heap} {w : World} (hH : HOk w H) {t xt ty : TypeId} {s x : D} {v u : Value} {K : D → Heap → Prop} (h : apV P H t xt s x K) (hs : D.is w H.others s v) (hx : D.is w H.others x u) :
    ∃ r d' w' H', (Builtin.append_ #[t, xt] ty #[v, u]).run P w = .ok r w' ∧ D.is w' H'.others d' r ∧ HOk w' H' ∧ Ev H w H' w' ∧ K d' H' := by
  unfold apV at h
  split at h
  · rename_i e _ _ _ X hT hX
    obtain ⟨hni, h⟩ := h
    split at h
    · rename_i dE sz by_ zs hE
      obtain ⟨hzl, hb0, h⟩ := h
      obtain ⟨d, i, a1, a2, a3⟩ := tyi_spec hT
      injection a3 with a3
      cases d <;> simp [tdOf] at a3
      subst a3
      obtain ⟨dx, ix, c1, c2, rfl⟩ := tyi_spec hX
      obtain ⟨els, us, h, hsz, hus, hul, hlen, hfirst⟩ := newsP_spec (P := P) hH h hx
      have fresh : ∀ (A : Option Addr), els.length * by_ ≤ 140737488355328 → els ≠ [] → K (.os w.heap.size 0 sz 0 els.length) (H.upd w.heap.size (.row e 0 sz els)) →
          ∃ r d' w' H', (Builtin.append_ #[t, xt] ty #[.slice A 0 0, u]).run P w = .ok r w' ∧ D.is w' H'.others d' r ∧ HOk w' H' ∧ Ev H w H' w' ∧ K d' H' := by
        intro A hb hne hk
        obtain ⟨_, h2⟩ := run_append_raw (P := P) (w := w) (ty := ty) a1 c1 hni hE rfl A 0 0 els.length u us [] hlen hfirst (fun W _ => by cases A <;> simp [Builtin.firstCells, loadCells, loadCellsFrom]) hb0 (by simpa using hb)
        have hpos : 0 < els.length := by
          rcases els with _ | ⟨_, _⟩
          · exact absurd rfl hne
          · simp
        obtain ⟨cap, rest, h3, h4, h5⟩ := h2 (by omega)
        rw [Nat.zero_add] at h4 h3
        refine ⟨_, _, _, _, h4, ?_, ?_, (ev_drew H w).trans (ev_alloc _ _ hH.drew), hk⟩
        · simp only [D.is]
          refine ⟨_, _, rfl, h3, .inr ⟨by simp, _, e, (0, 0), heap_alloc_new w.drew _, ?_⟩⟩
          simp only [List.size_toArray, List.length_append, List.length_nil, Nat.zero_add, h5, hul, hzl]
          rw [← Nat.add_mul]
          exact Nat.mul_le_mul_right _ (by omega)
        · have := row_alloc2 (w := w.drew) hH.drew e sz els us rest (cellsAll_keep (ev_drew H w).kept _ hus) hsz hul
          simpa using this
      split at h
      · obtain ⟨hb, h1, h2⟩ := h
        have e1 := is_val hs
        subst e1
        by_cases hne : els = []
        · subst hne
          obtain ⟨h3, _⟩ := run_append_raw (P := P) (w := w) (ty := ty) a1 c1 hni hE rfl none 0 0 0 u us [] hlen hfirst (fun W _ => rfl) hb0 (by simp)
          exact ⟨_, _, w, H, h3 (by omega) w rfl, is_mk _, hH, Ev.refl _ _, h1 rfl⟩
        · exact fresh none hb hne (h2 hne _ (fresh_none hH))
      · obtain ⟨hb, h1, h2⟩ := h
        simp only [D.is] at hs
        obtain ⟨A, rfl⟩ := hs
        by_cases hne : els = []
        · subst hne
          have hus0 : us = [] := List.eq_nil_of_length_eq_zero (by simpa using hul)
          subst hus0
          obtain ⟨h3, _⟩ := run_append_raw (P := P) (w := w) (ty := ty) a1 c1 hni hE rfl A 0 0 0 u [] [] hlen hfirst (fun W _ => by cases A <;> simp [Builtin.firstCells, loadCells, loadCellsFrom]) hb0 (by simp)
          exact ⟨_, _, w, H, h3 (by omega) w (by cases A <;> rfl), by simp only [D.is]; exact ⟨A, rfl⟩, hH, Ev.refl _ _, h1 rfl⟩
        · exact fresh A hb hne (h2 hne _ (fresh_none hH))
      · rename_i b o sz' k n _
        obtain ⟨rfl, hb, h⟩ := h
        split at h
        · rename_i ty' o' sz'' els0 hHb
          obtain ⟨rfl, rfl, rfl, hle, h⟩ := h
          simp only [D.is] at hs
          obtain ⟨A, c, rfl, hnc, hA⟩ := hs
          obtain ⟨cs, fr, g1, g2, g3, g4⟩ := hH _ _ hHb
          have hrow0 := rowsAt_take (rowsAt_drop g4 k) n
          have hl0 : ((els0.drop k).take n).length = n := by rw [List.length_take, List.length_drop]; omega
          obtain ⟨old, o1, o2, o3⟩ := rowsAt_vals hrow0
          rw [hl0] at o2
          have hold : ∀ W : World, W.heap = w.heap → (Builtin.firstCells sz'' n (.slice A n c)).run P W = .ok ⟨old⟩ W := fun W hW => by
            rcases hA with hA | ⟨rfl, _⟩
            · obtain rfl : n = 0 := by omega
              have : old = [] := List.eq_nil_of_length_eq_zero (by simpa using o2)
              subst this
              cases A <;> simp [Builtin.firstCells, loadCells, loadCellsFrom]
            · simp only [Builtin.firstCells]
              rw [← o2]
              exact run_loadCells_list (P := P) W ⟨b, o' + k * sz'', none⟩ old (fun j v hj => by
                rw [Addr.add_lit, ← o3 j v hj]
                simp only [World.cell?, hW])
          obtain ⟨r1, r2⟩ := run_append_raw (P := P) (w := w) (ty := ty) a1 c1 hni hE rfl A n c els.length u us old hlen hfirst hold hb0 hb
          by_cases hfit : n + els.length ≤ c
          · -- there is room
            have hres := h b (o' + k * sz'') (Heap.del_same H b)
            rw [Heap.del_upd] at hres
            have hexp : k * sz'' + n * sz'' ≤ els0.length * sz'' := by rw [← Nat.add_mul]; exact Nat.mul_le_mul_right _ hle
            rcases hA with hA | ⟨rfl, cs1, t1, fr1, f1, f2⟩
            · obtain rfl : n = 0 := by omega
              have hels : els = [] := List.eq_nil_of_length_eq_zero (by omega)
              subst hels
              have hus0 : us = [] := List.eq_nil_of_length_eq_zero (by simpa using hul)
              subst hus0
              have hev : Ev H w (H.upd b (.row ty' (o' + k * sz'') sz'' ((els0.drop k).take 0 ++ []))) w := ev_block (by rw [hHb]; simp) rfl rfl rfl rfl (fun _ _ => rfl) (fun cs0 t0 fr0 h0 => ⟨cs0, fr0, h0, rfl⟩)
              refine ⟨_, _, w, _, r1 hfit w (by cases A <;> rfl), ?_, hok_block hH hev (fun _ _ => rfl) ⟨cs, fr, g1, g2, ?_, ?_⟩, hev, hres⟩
              · simp only [D.is]
                exact ⟨A, c, rfl, by omega, .inl hA⟩
              · simp; omega
              · simp only [List.take_zero, List.append_nil, rowsAt]
            · rw [g1] at f1
              injection f1 with f1
              injection f1 with x1 x2 x3
              subst x1 x2 x3
              have hfz : o' + k * sz'' + n * sz'' + 0 + us.length ≤ cs.size := by
                rw [hul]
                have : (k + (n + els.length)) * sz'' ≤ (k + c) * sz'' := Nat.mul_le_mul_right _ (by omega)
                rw [Nat.add_mul, Nat.add_mul] at this
                omega
              obtain ⟨w', hrun, e1, e2, e3, e4, ho, cs', q1, q2, q3, q4⟩ := run_storeCells_spec (P := P) b ty' fr us (o' + k * sz'' + n * sz'') 0 w cs g1 g2 hfz (cellsAll_one hus)
              have hev : Ev H w (H.upd b (.row ty' (o' + k * sz'') sz'' ((els0.drop k).take n ++ els))) w' := ev_block (by rw [hHb]; simp) e1 e2 e3 e4 ho (fun cs0 t0 fr0 h0 => by
                rw [g1] at h0
                injection h0 with h0
                injection h0 with x1 x2 x3
                subst x1 x2 x3
                exact ⟨cs', _, q1, q2⟩)
              refine ⟨_, _, w', _, r1 hfit w' (by simp only [Addr.add_lit]; exact hrun), ?_, hok_block hH hev ho ⟨cs', fr, q1, by rw [q2]; exact g2, ?_, ?_⟩, hev, hres⟩
              · simp only [D.is]
                refine ⟨_, c, rfl, hfit, .inr ⟨by simp, cs', ty', fr, q1, ?_⟩⟩
                rw [q2, Nat.zero_add]
                have : (k + c) * sz'' = k * sz'' + c * sz'' := Nat.add_mul _ _ _
                omega
              · rw [q2, List.length_append, hl0, Nat.add_mul, ← hul]
                omega
              · have hcell : ∀ j, w'.cell? ⟨b, j, none⟩ = cs'[j]? := fun j => cell_of_row w' b j cs' ty' fr q1
                have hcell0 : ∀ j, w.cell? ⟨b, j, none⟩ = cs[j]? := fun j => cell_of_row w b j cs ty' fr g1
                refine rowsAt_block (vs := old ++ us) ?_ ?_ ?_
                · intro el hel
                  rcases List.mem_append.1 hel with h1 | h1
                  · exact rowsAt_sized hrow0 el h1
                  · exact hsz el h1
                · rw [List.flatten_append]
                  exact cellsAll_append (cellsAll_keep hev.kept _ o1) (cellsAll_keep hev.kept _ hus)
                · intro j v hj
                  rcases Nat.lt_or_ge j old.length with hlt | hge
                  · rw [List.getElem?_append_left hlt] at hj
                    rw [hcell, q4 _ (by omega), ← hcell0]
                    exact o3 j v hj
                  · rw [List.getElem?_append_right hge] at hj
                    rw [hcell, show o' + k * sz'' + j = o' + k * sz'' + n * sz'' + 0 + (j - old.length) by omega]
                    exact q3 _ v hj
          · -- a new array
            obtain ⟨cap, rest, h3, h4, h5⟩ := r2 (by omega)
            have hH2 : HOk w.drew (H.del b) := hH.drew.less (Heap.del_le H b)
            have hn : (H.del b) w.heap.size = none := by
              have := fresh_none hH
              rw [Heap.del_ne]
              · exact this
              · have := hH.lt hHb
                omega
            have hkl : Kept H.others (H.del b).others w w.drew := (ev_drew H w).less (Heap.del_le H b) |>.kept
            refine ⟨_, _, _, _, h4, ?_, ?_, ((ev_drew H w).less (Heap.del_le H b)).trans (ev_alloc _ _ hH2), h w.heap.size 0 hn⟩
            · simp only [D.is]
              refine ⟨_, _, rfl, h3, .inr ⟨by simp, _, ty', (0, 0), heap_alloc_new w.drew _, ?_⟩⟩
              simp only [List.size_toArray, List.length_append, h5, hul, hzl, o2]
              rw [← Nat.add_mul, ← Nat.add_mul]
              simp only [Nat.zero_add]
              exact Nat.mul_le_mul_right _ (by omega)
            · have := row_alloc2 (w := w.drew) hH2 ty' sz'' ((els0.drop k).take n ++ els) (old ++ us) rest (by rw [List.flatten_append]; exact cellsAll_append (cellsAll_keep hkl _ o1) (cellsAll_keep hkl _ hus)) (by
                  intro el hel
                  rcases List.mem_append.1 hel with h1 | h1
                  · exact rowsAt_sized hrow0 el h1
                  · exact hsz el h1) (by rw [List.length_append, List.length_append, hl0, o2, hul, Nat.add_mul])
              simpa using this
        · exact h.elim
      · rename_i b o n c _
        obtain ⟨hfit, h⟩ := h
        have e1 := is_val hs
        subst e1
        split at h
        · rename_i ty' o' sz'' els0 hHb
          obtain ⟨rfl, rfl, hcl, hk⟩ := h
          obtain ⟨cs, fr, g1, g2, g3, g4⟩ := hH _ _ hHb
          obtain ⟨old1, o1, o2, o3⟩ := rowsAt_vals (rowsAt_take g4 n)
          obtain ⟨old2, p1, p2, p3⟩ := rowsAt_vals (rowsAt_drop g4 (n + els.length))
          have hl1 : (els0.take n).length = n := by rw [List.length_take]; omega
          rw [hl1] at o2
          rw [List.length_drop] at p2
          have hbound : ∀ q, q ≤ els0.length → o' + q * sz'' ≤ cs.size := fun q hq => by
            have : q * sz'' ≤ els0.length * sz'' := Nat.mul_le_mul_right _ hq
            omega
          have hfz : o' + n * sz'' + 0 + us.length ≤ cs.size := by
            have := hbound (n + els.length) (by omega)
            rw [hul]
            rw [Nat.add_mul] at this
            omega
          obtain ⟨w', hrun, e1, e2, e3, e4, ho, cs', q1, q2, q3, q4⟩ := run_storeCells_spec (P := P) b ty' fr us (o' + n * sz'') 0 w cs g1 g2 hfz (cellsAll_one hus)
          have hev : Ev H w (H.upd b (.row ty' o' sz'' (els0.take n ++ els ++ els0.drop (n + els.length)))) w' := ev_block (by rw [hHb]; simp) e1 e2 e3 e4 ho (fun cs0 t0 fr0 h0 => by
            rw [g1] at h0
            injection h0 with h0
            injection h0 with x1 x2 x3
            subst x1 x2 x3
            exact ⟨cs', _, q1, q2⟩)
          refine ⟨_, _, w', _, run_append_fit (ty := ty) a1 c1 hni hE ⟨b, o', none⟩ n c els.length u us hlen hfirst hfit w' (by simp only [Addr.add_lit]; exact hrun), is_mk _, hok_block hH hev ho ⟨cs', fr, q1, by rw [q2]; exact g2, ?_, ?_⟩, hev, hk⟩
          · rw [q2, List.length_append, List.length_append, hl1, List.length_drop, show n + els.length + (els0.length - (n + els.length)) = els0.length by omega]
            exact hbound _ (Nat.le_refl _)
          · have hcell : ∀ j, w'.cell? ⟨b, j, none⟩ = cs'[j]? := fun j => cell_of_row w' b j cs' ty' fr q1
            have hcell0 : ∀ j, w.cell? ⟨b, j, none⟩ = cs[j]? := fun j => cell_of_row w b j cs ty' fr g1
            refine rowsAt_block (vs := old1 ++ us ++ old2) ?_ ?_ ?_
            · intro el hel
              rcases List.mem_append.1 hel with h1 | h1
              · rcases List.mem_append.1 h1 with h1 | h1
                · exact rowsAt_sized (rowsAt_take g4 n) el h1
                · exact hsz el h1
              · exact rowsAt_sized (rowsAt_drop g4 _) el h1
            · rw [List.flatten_append, List.flatten_append]
              exact cellsAll_append (cellsAll_append (cellsAll_keep hev.kept _ o1) (cellsAll_keep hev.kept _ hus)) (cellsAll_keep hev.kept _ p1)
            · intro j v hj
              rw [hcell]
              rcases Nat.lt_or_ge j (old1 ++ us).length with hlt | hge
              · rw [List.getElem?_append_left hlt] at hj
                rcases Nat.lt_or_ge j old1.length with hlt1 | hge1
                · rw [List.getElem?_append_left hlt1] at hj
                  rw [q4 _ (by omega), ← hcell0]
                  exact o3 j v hj
                · rw [List.getElem?_append_right hge1] at hj
                  rw [show o' + j = o' + n * sz'' + 0 + (j - old1.length) by omega]
                  exact q3 _ v hj
              · rw [List.getElem?_append_right hge] at hj
                rw [List.length_append] at hge hj
                have hnm : (n + els.length) * sz'' = n * sz'' + els.length * sz'' := Nat.add_mul _ _ _
                rw [q4 _ (by omega), ← hcell0, show o' + j = o' + (n + els.length) * sz'' + (j - (old1.length + us.length)) by omega]
                exact p3 _ v hj
        · exact h.elim
      · exact h.elim
    · exact h.elim
  · exact h.elim
end Go.Proofs.Ytdcnpkpibbefhaa
