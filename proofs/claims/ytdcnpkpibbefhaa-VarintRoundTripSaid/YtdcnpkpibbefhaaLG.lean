/- A program logic over descriptions of values. Part 16: contracts of functions that only read, in whatever heap; contracts out of the kit's. -/
import Derived.Test.YtdcnpkpibbefhaaLF
namespace Go.Proofs.Ytdcnpkpibbefhaa
open Go.RowKit
set_option linter.unusedVariables false
set_option linter.unusedSimpArgs false

/-- A value as d says reads, for one who owns nothing, as d0 says. -/
def Vw (H : Heap) (d d0 : D) : Prop := ∀ w v, HOk w H → D.is w H.others d v → D.is w Heap.none.others d0 v
theorem vw_refl (H : Heap) (d : D) : Vw H d d := fun w v _ h => D.is_keep (Kept.less (Heap.le_none H) w) d h
theorem vw_els {H : Heap} {sz : Nat} {d : D} {els : List (List D)} (h : elsP H sz d (· = els)) : Vw H d (.seq sz els) := fun w v hH hd => by
  obtain ⟨l, A, c, rfl, rfl, hlc, hrow⟩ := elsP_spec hH h hd
  simp only [D.is]
  refine ⟨A, c, rfl, hlc, ?_⟩
  rcases hrow with hrow | ⟨b, o, rfl, hb, hr⟩
  · exact .inl hrow
  · right
    refine ⟨b, o, rfl, rfl, hb, rowsAt_of fun i el hi => ?_⟩
    obtain ⟨g1, g2⟩ := rowsAt_get hr i el hi
    refine ⟨g1, ?_⟩
    obtain ⟨vs, g3, g4⟩ := cellsAt_vals g2
    exact cellsAt_of (cellsAll_keep (Kept.less (Heap.le_none H) w) _ g3) g4
theorem vw_ep {H : Heap} {t : TypeId} {b o sz i k : Nat} {els : List (List D)} {el : List D} (hb : H b = some (.row t o sz els)) (hi : els[i]? = some el) : Vw H (.ep b o sz i k) (.rp (el.drop k)) := fun w v hH hd => by
  simp only [D.is] at hd ⊢
  obtain ⟨cs, fr, h1, h2, h3, h4⟩ := hH _ _ hb
  refine ⟨b, _, hd, rfl, hH.lt hb, ?_⟩
  obtain ⟨vs, g3, g4⟩ := cellsAt_vals (cellsAt_drop (rowsAt_get h4 i el hi).2 k)
  exact cellsAt_of (cellsAll_keep (Kept.less (Heap.le_none H) w) _ g3) g4
def Vws (H : Heap) : List D → List D → Prop
  | [], [] => True
  | d :: ds, e :: es => Vw H d e ∧ Vws H ds es
  | _, _ => False
theorem vws0 {H : Heap} : Vws H [] [] := trivial
theorem vws1 {H : Heap} {d e : D} (h : Vw H d e) : Vws H [d] [e] := ⟨h, trivial⟩
theorem vws2 {H : Heap} {d e d2 e2 : D} (h : Vw H d e) (h2 : Vw H d2 e2) : Vws H [d, d2] [e, e2] := ⟨h, h2, trivial⟩
theorem vws3 {H : Heap} {d e d2 e2 d3 e3 : D} (h : Vw H d e) (h2 : Vw H d2 e2) (h3 : Vw H d3 e3) : Vws H [d, d2, d3] [e, e2, e3] := ⟨h, h2, h3, trivial⟩
theorem Vws.all {H : Heap} {w : World} (hH : HOk w H) : ∀ {ds es : List D} {vs : List Value}, Vws H ds es → valsAll w H.others ds vs → valsAll w Heap.none.others es vs
  | [], [], vs, _, h => by simp only [valsAll] at h ⊢; exact h
  | d :: ds, e :: es, vs, hv, h => by
    simp only [valsAll] at h ⊢
    obtain ⟨u, us, rfl, h1, h2⟩ := h
    exact ⟨u, us, rfl, hv.1 w u hH h1, Vws.all hH hv.2 h2⟩
  | [], _ :: _, _, hv, _ => hv.elim
  | _ :: _, [], _, hv, _ => hv.elim
/-- A description that leans on no memory. -/
def D.plain : D → Bool
  | .val _ => true
  | .tup ds => ds.all fun d => match d with
    | .val _ => true
    | _ => false
  | _ => false
theorem plain_vals {w w' : World} {S S' : Nat → Prop} : ∀ {ds : List D} {vs : List Value}, (ds.all fun d => match d with | .val _ => true | _ => false) = true → valsAll w S ds vs → valsAll w' S' ds vs
  | [], _, _, h => by simp only [valsAll] at h ⊢; exact h
  | d :: ds, vs, hp, h => by
    simp only [valsAll] at h ⊢
    obtain ⟨u, us, rfl, h1, h2⟩ := h
    simp only [List.all_cons, Bool.and_eq_true] at hp
    refine ⟨u, us, rfl, ?_, plain_vals hp.2 h2⟩
    cases d <;> first | (cases hp.1; done) | (simp only [D.is] at h1 ⊢; exact h1)
theorem plain_is {w w' : World} {S S' : Nat → Prop} {d : D} {v : Value} (hp : d.plain = true) (h : D.is w S d v) : D.is w' S' d v := by
  cases d with
  | val u => simp only [D.is] at h ⊢; exact h
  | tup ds =>
    simp only [D.is] at h ⊢
    obtain ⟨vs, rfl, h⟩ := h
    exact ⟨vs, rfl, plain_vals hp h⟩
  | _ => cases hp
/-- Nothing that was there has changed. -/
theorem ev_all {H : Heap} {w w' : World} (h : Ev Heap.none w Heap.none w') : Ev H w H w' :=
  ⟨h.os, h.tape, h.output, h.size, fun b hb hn => ⟨(h.keep b hb rfl).1, hn⟩, h.shape⟩
theorem hok_all {H : Heap} {w w' : World} (hH : HOk w H) (h : Ev Heap.none w Heap.none w') : HOk w' H := fun b x hb => (ev_all h).objAt (h.keep b (hH.lt hb) rfl).1 (hH b x hb)
theorem ev_below {H : Heap} {w w' : World} (h : Below w.heap.size w w') : Ev H w H w' :=
  ⟨h.os, h.tape, h.output, h.size, fun b hb hn => ⟨h.block b hb, hn⟩, fun b cs t fr hb => ⟨cs, fr, (h.block b (Array.getElem?_eq_some_iff.1 hb).1).trans hb, rfl⟩⟩
/-- A function that only reads: its contract for one who owns nothing serves in whatever heap. -/
theorem pure_D {P : Program} {f : FuncId} {ds0 ds : List D} {H : Heap} {r : D} (h : Does P f ds0 .none fun d _ => d = r) (hr : r.plain = true) (hv : Vws H ds ds0) : Does P f ds H fun d H' => d = r ∧ H = H' :=
  And.intro h.1 fun w vs hvs hH => by
    refine (h.2 w vs (hv.all hH hvs) (fun b x hb => by cases hb)).mono ?_
    rintro e w' ⟨v, d, H', rfl, h1, h2, h3, rfl⟩
    have h4 : Ev Heap.none w Heap.none w' := h3.less (Heap.le_none _)
    exact ⟨v, d, H, rfl, plain_is hr h1, hok_all hH h4, ev_all h4, rfl, rfl⟩
theorem Vws.le {H H' : Heap} (hle : H.le H') : ∀ {ds es : List D}, Vws H ds es → Vws H' ds es → True := fun _ _ => trivial
/-- .. in a region whose order is open. -/
theorem pure_call {P : Program} {f : FuncId} {ds0 ds : List D} {H : Heap} {r : D} (h : Does P f ds0 .none fun d _ => d = r) (hr : r.plain = true) (hv : ∀ H'', H.le H'' → Vws H'' ds ds0) : CallOK P f ds H fun d A => d = r ∧ A = .none := fun H'' hle =>
  (pure_D h hr (hv H'' hle)).mono fun d H' ⟨h1, h2⟩ => ⟨.none, Disj.none _, by rw [← h2]; rfl, h1, rfl⟩
theorem elsP_of {H : Heap} {sz : Nat} {x : D} {els : List (List D)} {K : List (List D) → Prop} (h : elsP H sz x (· = els)) (hk : K els) : elsP H sz x K := by
  unfold elsP at h ⊢
  split at h
  · exact ⟨h.1, h.2 ▸ hk⟩
  · split at h
    · obtain ⟨h1, h2, h3, h4, h5⟩ := h
      exact ⟨h1, h2, h3, h4, h5 ▸ hk⟩
    · exact h.elim
  · exact h ▸ hk
  · exact h ▸ hk
  · exact h.elim
/-- A slice of bytes that reads as l. -/
theorem rd_els {w : World} {S : Nat → Prop} {A : Option Addr} {l : List UInt8} (h : l.map bD = [] ∨ ∃ b o, A = some ⟨b, o, none⟩ ∧ b < w.heap.size ∧ rowsAt w S b 1 o (l.map bD)) : Rd w w.heap.size A (bv l) := fun j u hu => by
  rcases h with h | ⟨b, o, rfl, hb, hr⟩
  · have : l = [] := by simpa using h
    subst this
    cases hu
  · refine ⟨b, o, rfl, hb, ?_⟩
    have hj : j < l.length := by
      have := (List.getElem?_eq_some_iff.1 hu).1
      simpa [bv] using this
    obtain ⟨_, h2⟩ := rowsAt_get hr j (bD l[j]) (by simp [hj])
    simp only [bD, cellsAt, D.is, Nat.mul_one] at h2
    obtain ⟨⟨u', h3, _, rfl⟩, _⟩ := h2
    rw [h3]
    simp only [bv, List.getElem?_map, List.getElem?_eq_getElem hj, Option.map_some] at hu
    exact hu
theorem is_els {w : World} {H : Heap} {l : List UInt8} {v : Value} (h : D.is w H.others (.seq 1 (l.map bD)) v) : ∃ A c, v = .slice A l.length c ∧ l.length ≤ c ∧ Rd w w.heap.size A (bv l) := by
  simp only [D.is, List.length_map] at h
  obtain ⟨A, c, rfl, h1, h2⟩ := h
  refine ⟨A, c, rfl, h1, rd_els (S := H.others) ?_⟩
  rcases h2 with h2 | ⟨b, o, h3, _, h4, h5⟩
  · exact .inl h2
  · exact .inr ⟨b, o, h3, h4, h5⟩
/-- A row of one's own is no longer changed: it reads as a slice that nobody changes. -/
theorem frz_is {H : Heap} {w : World} {b o sz k n : Nat} {ty : TypeId} {els : List (List D)} {v : Value} (hH : HOk w H) (hb : H b = some (.row ty o sz els)) (hle : k + n ≤ els.length)
    (h0 : D.is w H.others (.os b o sz k n) v) : D.is w (H.del b).others (.seq sz ((els.drop k).take n)) v := by
  have he : elsP H sz (.os b o sz k n) (· = (els.drop k).take n) := by simp only [elsP, hb]; exact ⟨trivial, trivial, trivial, hle, trivial⟩
  obtain ⟨l, A, c', rfl, hv, hlc, hrow⟩ := elsP_spec hH he h0
  rw [hv]
  simp only [D.is]
  refine ⟨A, c', rfl, hlc, ?_⟩
  rcases hrow with hrow | ⟨b', o', rfl, hb', hr⟩
  · exact .inl hrow
  · by_cases hn : (els.drop k).take n = []
    · exact .inl hn
    · right
      refine ⟨b', o', rfl, ?_, hb', rowsAt_of fun i el hi => ?_⟩
      · simp only [D.is] at h0
        obtain ⟨A2, c2, e2, _, hA2⟩ := h0
        rw [hv] at e2
        injection e2 with e3 e4 e5
        have hpos : 0 < n := by
          rcases Nat.eq_zero_or_pos n with h1 | h1
          · subst h1; simp at hn
          · exact h1
        rcases hA2 with hA2 | ⟨hA2, _⟩
        · have : ((els.drop k).take n).length = n := by rw [List.length_take, List.length_drop]; omega
          omega
        · rw [hA2] at e3
          injection e3 with e3
          injection e3 with e3
          subst e3
          exact Heap.del_same _ _
      · obtain ⟨g1, g2⟩ := rowsAt_get hr i el hi
        refine ⟨g1, ?_⟩
        obtain ⟨vs, g3, g4⟩ := cellsAt_vals g2
        exact cellsAt_of (cellsAll_keep (Kept.less (Heap.del_le H b) w) _ g3) g4
/-- .. the slot t then holds it. -/
def St.frz (s : St) (t : Nat) (b sz k n : Nat) (els : List (List D)) : St := (s.withH (s.H.del b)).put (some t) (.seq sz ((els.drop k).take n))
theorem match_frz {cx : Cx} {s : St} {a : Act} {w : World} {t b o sz k n : Nat} {ty : TypeId} {els : List (List D)} (ht : s.fr t = .os b o sz k n) (hb : s.H b = some (.row ty o sz els)) (hle : k + n ≤ els.length) (m : Match cx s a w) : Match cx (s.frz t b sz k n els) a w := by
  have m2 := m.less (Heap.del_le s.H b)
  refine ⟨m2.n, m2.df, fun x => ?_, m2.H, m2.ev⟩
  have ef : (s.frz t b sz k n els).fr x = if x = t then .seq sz ((els.drop k).take n) else s.fr x := rfl
  rw [ef]
  show D.is w (s.H.del b).others _ _
  by_cases hx : x = t
  · subst hx
    simp only [if_true]
    have h0 := m.fr x
    rw [ht] at h0
    exact frz_is m.H hb hle h0
  · simp only [if_neg hx]
    exact m2.fr x
theorem W_freeze {cx : Cx} {c : Code} {Q : Exit → St → Prop} {s : St} (t : Nat) {b o sz k n : Nat} {ty : TypeId} {els : List (List D)} (ht : s.fr t = .os b o sz k n) (hb : s.H b = some (.row ty o sz els)) (hle : k + n ≤ els.length)
    (h : W cx c Q (s.frz t b sz k n els)) : W cx c Q s := fun a w m => h a w (match_frz ht hb hle m)
theorem WL_freeze {cx : Cx} {ops : Array Oper} {l : List Oper} {Q : Exit → St → Prop} {s : St} (t : Nat) {b o sz k n : Nat} {ty : TypeId} {els : List (List D)} (ht : s.fr t = .os b o sz k n) (hb : s.H b = some (.row ty o sz els)) (hle : k + n ≤ els.length)
    (h : WL cx ops l Q (s.frz t b sz k n els)) : WL cx ops l Q s := fun a w m => h a w (match_frz ht hb hle m)
/-- A description that says more about the arguments. -/
theorem Does.weak {P : Program} {f : FuncId} {ds ds0 : List D} {H H0 : Heap} {K : D → Heap → Prop} (h : Does P f ds0 H0 K) (hle : H0.le H) (hv : ∀ w vs, HOk w H → valsAll w H.others ds vs → valsAll w H0.others ds0 vs) : Does P f ds H K :=
  And.intro h.1 fun w vs hvs hH => (h.2 w vs (hv w vs hH hvs) (hH.less hle)).mono fun e w' ⟨v, d, H', he, hd, hH', hev, hk⟩ =>
    ⟨v, d, H', he, hd, hH', ⟨hev.os, hev.tape, hev.output, hev.size, fun b hb hn => hev.keep b hb (by
      cases hx : H0 b with
      | none => rfl
      | some x => have := hle b x hx; rw [hn] at this; cases this), hev.shape⟩, hk⟩
/-- One row of one's own is given away. -/
theorem Does.give {P : Program} {f : FuncId} {H : Heap} {b o sz k n : Nat} {ty : TypeId} {els : List (List D)} {K : D → Heap → Prop} (hb : H b = some (.row ty o sz els)) (hle : k + n ≤ els.length)
    (h : Does P f [.seq sz ((els.drop k).take n)] (H.del b) K) : Does P f [.os b o sz k n] H K := by
  refine h.weak (Heap.del_le H b) fun w vs hH hvs => ?_
  simp only [valsAll] at hvs ⊢
  obtain ⟨u, us, rfl, hd, rfl⟩ := hvs
  exact ⟨u, [], rfl, frz_is hH hb hle hd, rfl⟩
/-- The number that a description holds. -/
def intD : D → Int
  | .val (.int _ n) => n
  | _ => 0
end Go.Proofs.Ytdcnpkpibbefhaa
