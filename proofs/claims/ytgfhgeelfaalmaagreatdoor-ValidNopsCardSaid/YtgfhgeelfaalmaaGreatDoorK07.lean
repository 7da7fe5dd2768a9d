/- Lemmas and contracts of functions, several texts in one: Y0 Y1 YA. -/
import Derived.Test.YtgfhgeelfaalmaaGreatDoorK05
namespace Go.Proofs.YtgfhgeelfaalmaaGreatDoor
open Go.RowKit
set_option linter.unusedVariables false
set_option linter.unusedSimpArgs false
def i64 (n : Int) : D := .val (.int .i64 n)
def iD (n : Int) : List D := [i64 n]
def pD (p : Int × Int) : List D := [i64 p.1, i64 p.2]
theorem get_ints {l : List Int} {i : Nat} (h : i < l.length) : (l.map iD)[i]? = some [.val (.int .i64 l[i])] := by
  rw [List.getElem?_map, List.getElem?_eq_getElem h]; rfl
def InR (n a : Int) : Prop := 0 ≤ a ∧ a < n
instance (n a : Int) : Decidable (InR n a) := by unfold InR; exact inferInstance
structure TyS where
  k : Int
  m : Bool
  r : Int
  e : Int
  ar : List Int
def tyD (t : TyS) : List D := [i64 t.k, .val (.bool t.m), i64 t.r, i64 t.e, .seq 1 (t.ar.map iD)]
def tyAt (ts : List TyS) (a : Int) : TyS := ts.getD a.toNat ⟨0, false, 0, 0, []⟩
def wfT (ts : List TyS) : Prop := ∀ (i : Nat) (h : i < ts.length), (ts[i].k = 3 → 0 ≤ ts[i].e ∧ ts[i].e < i) ∧ ∀ x ∈ ts[i].ar, 0 ≤ x ∧ x < i
theorem tyAt_get {ts : List TyS} {a : Int} (h : InR ts.length a) : ∃ h', tyAt ts a = ts[a.toNat]'h' := by
  unfold InR at h
  refine ⟨by omega, ?_⟩
  unfold tyAt
  rw [List.getD_eq_getElem?_getD, List.getElem?_eq_getElem (by omega)]; rfl
theorem wfT_at {ts : List TyS} (hw : wfT ts) {a : Int} (h : InR ts.length a) : ((tyAt ts a).k = 3 → 0 ≤ (tyAt ts a).e ∧ (tyAt ts a).e < a) ∧ ∀ x ∈ (tyAt ts a).ar, 0 ≤ x ∧ x < a := by
  obtain ⟨h', he⟩ := tyAt_get h
  rw [he]
  have := hw a.toNat h'
  unfold InR at h
  refine ⟨fun hk => ?_, fun x hx => ?_⟩
  · have := this.1 hk; omega
  · have := this.2 x hx; omega
theorem ty_get {ts : List TyS} {a : Int} (h : InR ts.length a) : (ts.map tyD)[a.toNat]? = some (tyD (tyAt ts a)) := by
  obtain ⟨h', he⟩ := tyAt_get h
  rw [he, List.getElem?_map, List.getElem?_eq_getElem h']; rfl
deriving instance DecidableEq for TyS
theorem snoc_ind {α : Type} {p : List α → Prop} (h0 : p []) (h1 : ∀ l a, p l → p (l ++ [a])) (l : List α) : p l := by
  have h : ∀ l : List α, p l.reverse := fun l => by
    induction l with
    | nil => exact h0
    | cons a l ih => rw [List.reverse_cons]; exact h1 _ _ ih
  have := h l.reverse
  rwa [List.reverse_reverse] at this
def fndI (t : TyS) : List TyS → Nat → Int
  | [], _ => -1
  | x :: xs, i => if x = t then (i : Int) else fndI t xs (i + 1)
theorem fndI_neg {t : TyS} : ∀ {l : List TyS} {i : Nat}, t ∉ l → fndI t l i = -1
  | [], _, _ => rfl
  | x :: xs, i, h => by
    rw [fndI, if_neg (fun e => h (by simp [e]))]
    exact fndI_neg fun hm => h (List.mem_cons_of_mem _ hm)
theorem fndI_ge {t : TyS} : ∀ {l : List TyS} {i : Nat}, t ∈ l → (i : Int) ≤ fndI t l i
  | x :: xs, i, h => by
    rw [fndI]
    by_cases e : x = t
    · rw [if_pos e]; exact Int.le_refl _
    · rw [if_neg e]
      have := fndI_ge (i := i + 1) (show t ∈ xs by rcases List.mem_cons.1 h with h | h; exact absurd h.symm e; exact h)
      omega
theorem fndI_iff {t : TyS} {l : List TyS} : 0 ≤ fndI t l 0 ↔ t ∈ l := by
  by_cases h : t ∈ l
  · exact ⟨fun _ => h, fun _ => fndI_ge h⟩
  · rw [fndI_neg h]; exact ⟨fun h => by omega, fun h' => absurd h' h⟩
def kidF (d : List Int) (k : Int) (f : Int) : Int := max k (d.getD f.toNat 0)
def kidM (d : List Int) (t : TyS) : Int := t.ar.foldl (kidF d) (if t.k = 3 then d.getD t.e.toNat 0 else 0)
def depL (ts : List TyS) : List Int := ts.foldl (fun d t => d ++ [kidM d t + 1]) []
theorem depL_snoc (ts : List TyS) (t : TyS) : depL (ts ++ [t]) = depL ts ++ [kidM (depL ts) t + 1] := by
  unfold depL; rw [List.foldl_append]; rfl
theorem depL_len (ts : List TyS) : (depL ts).length = ts.length := by
  induction ts using snoc_ind with
  | h0 => rfl
  | h1 ts t ih => rw [depL_snoc, List.length_append, List.length_append, ih]; rfl
theorem fold_le {d : List Int} {b : Int} (hd : ∀ x ∈ d, x ≤ b) (h0 : 0 ≤ b) : ∀ (l : List Int) (k : Int), k ≤ b → l.foldl (kidF d) k ≤ b
  | [], k, h => h
  | f :: l, k, h => by
    rw [List.foldl_cons]
    refine fold_le hd h0 l _ ?_
    unfold kidF
    have : d.getD f.toNat 0 ≤ b := by
      rw [List.getD_eq_getElem?_getD]
      cases e : d[f.toNat]? with
      | none => exact h0
      | some x => exact hd x (List.mem_of_getElem? e)
    omega
theorem fold_ge {d : List Int} : ∀ (l : List Int) (k : Int), k ≤ l.foldl (kidF d) k ∧ ∀ f ∈ l, d.getD f.toNat 0 ≤ l.foldl (kidF d) k
  | [], k => ⟨Int.le_refl _, fun f hf => by cases hf⟩
  | f :: l, k => by
    rw [List.foldl_cons]
    have h := fold_ge (d := d) l (kidF d k f)
    refine ⟨Int.le_trans (by unfold kidF; omega) h.1, fun g hg => ?_⟩
    rcases List.mem_cons.1 hg with rfl | hg
    · exact Int.le_trans (by unfold kidF; omega) h.1
    · exact h.2 g hg
theorem getD_le {d : List Int} {b : Int} (hd : ∀ x ∈ d, x ≤ b) (h0 : 0 ≤ b) (i : Nat) : d.getD i 0 ≤ b := by
  rw [List.getD_eq_getElem?_getD]
  cases e : d[i]? with
  | none => exact h0
  | some x => exact hd x (List.mem_of_getElem? e)
theorem getD_ge {d : List Int} {b : Int} (hd : ∀ x ∈ d, b ≤ x) (h0 : b ≤ 0) (i : Nat) : b ≤ d.getD i 0 := by
  rw [List.getD_eq_getElem?_getD]
  cases e : d[i]? with
  | none => exact h0
  | some x => exact hd x (List.mem_of_getElem? e)
theorem kidM_le {d : List Int} {b : Int} (hd : ∀ x ∈ d, x ≤ b) (h0 : 0 ≤ b) (t : TyS) : kidM d t ≤ b := by
  unfold kidM
  refine fold_le hd h0 _ _ ?_
  split
  · exact getD_le hd h0 _
  · exact h0
theorem kidM_ge {d : List Int} (hd : ∀ x ∈ d, 0 ≤ x) (t : TyS) : 0 ≤ kidM d t := by
  unfold kidM
  refine Int.le_trans ?_ (fold_ge _ _).1
  split
  · exact getD_ge hd (Int.le_refl _) _
  · exact Int.le_refl _
theorem depL_bd (ts : List TyS) : ∀ x ∈ depL ts, 1 ≤ x ∧ x ≤ ts.length := by
  induction ts using snoc_ind with
  | h0 => intro x hx; simp [depL] at hx
  | h1 ts t ih =>
    intro x hx
    rw [depL_snoc] at hx
    rw [List.length_append]
    simp only [List.length_singleton]
    rcases List.mem_append.1 hx with hx | hx
    · have := ih x hx; omega
    · rw [List.mem_singleton] at hx
      subst hx
      have h1 := kidM_le (b := ts.length) (fun x hx => (ih x hx).2) (by omega) t
      have h2 := kidM_ge (fun x hx => by have := ih x hx; omega) t
      omega
theorem depL_take {ts : List TyS} {n : Nat} (h : n < ts.length) : depL (ts.take (n + 1)) = depL (ts.take n) ++ [kidM (depL (ts.take n)) ts[n] + 1] := by
  rw [List.take_succ_eq_append_getElem h, depL_snoc]
theorem depL_pre (ts us : List TyS) : ∃ x, depL (ts ++ us) = depL ts ++ x := by
  induction us using snoc_ind with
  | h0 => exact ⟨[], by simp⟩
  | h1 us u ih =>
    obtain ⟨x, hx⟩ := ih
    exact ⟨x ++ [kidM (depL (ts ++ us)) u + 1], by rw [← List.append_assoc, depL_snoc, hx, List.append_assoc]⟩
theorem depL_get {ts : List TyS} {i n : Nat} (hi : i < n) (hn : n ≤ ts.length) : (depL (ts.take n))[i]? = (depL ts)[i]? := by
  obtain ⟨x, hx⟩ := depL_pre (ts.take n) (ts.drop n)
  rw [List.take_append_drop] at hx
  rw [hx, List.getElem?_append_left (by rw [depL_len, List.length_take]; omega)]
def depAt (ts : List TyS) (i : Int) : Int := if InR ts.length i then (depL ts).getD i.toNat 0 else 0
open Classical in
noncomputable def chk1 (ps : List TyS) (n : Int) (t : TyS) : Nat :=
  if t.k < 0 ∨ 4 < t.k then 14
  else if (t.k ≠ 3 ∧ (t.m = true ∨ t.r ≠ 0 ∨ t.e ≠ 0)) ∨ (t.k ≠ 4 ∧ 0 < t.ar.length) then 2
  else if t.k = 3 ∧ (t.r < 0 ∨ n ≤ t.r ∨ t.e < 0 ∨ (ps.length : Int) ≤ t.e) then 3
  else if ∃ f ∈ t.ar, f < 0 ∨ (ps.length : Int) ≤ f then 3
  else if t.k = 4 ∧ (t.ar.length = 0 ∨ 65535 < t.ar.length) then 15
  else if 32 < kidM (depL ps) t + 1 then 19
  else if t ∈ ps then 21
  else 0
noncomputable def chkS (n : Int) : List TyS → List TyS → Nat
  | _, [] => 0
  | ps, t :: ts => if chk1 ps n t = 0 then chkS n (ps ++ [t]) ts else chk1 ps n t
noncomputable def chkT (ts : List TyS) (n : Int) : Nat := if 65535 < ts.length then 15 else chkS n [] ts
structure Ok1 (ps : List TyS) (n : Int) (t : TyS) : Prop where
  k0 : 0 ≤ t.k
  k4 : t.k ≤ 4
  pl : t.k ≠ 3 → t.m = false ∧ t.r = 0 ∧ t.e = 0
  fl : t.k ≠ 4 → t.ar = []
  rr : t.k = 3 → 0 ≤ t.r ∧ t.r < n ∧ 0 ≤ t.e ∧ t.e < ps.length
  fr : ∀ f ∈ t.ar, 0 ≤ f ∧ f < ps.length
  tl : t.k = 4 → 0 < t.ar.length ∧ t.ar.length ≤ 65535
  dp : kidM (depL ps) t + 1 ≤ 32
  nw : t ∉ ps
theorem chk1_ok {ps : List TyS} {n : Int} {t : TyS} : chk1 ps n t = 0 ↔ Ok1 ps n t := by
  unfold chk1
  by_cases h1 : t.k < 0 ∨ 4 < t.k
  · rw [if_pos h1]; exact ⟨fun h => (by cases h), fun h => by have := h.k0; have := h.k4; omega⟩
  rw [if_neg h1]
  by_cases h2 : (t.k ≠ 3 ∧ (t.m = true ∨ t.r ≠ 0 ∨ t.e ≠ 0)) ∨ (t.k ≠ 4 ∧ 0 < t.ar.length)
  · rw [if_pos h2]
    refine ⟨fun h => (by cases h), fun h => ?_⟩
    rcases h2 with ⟨a, b⟩ | ⟨a, b⟩
    · have := h.pl a
      rcases b with b | b | b
      · rw [this.1] at b; cases b
      · exact absurd this.2.1 b
      · exact absurd this.2.2 b
    · rw [h.fl a] at b; simp at b
  rw [if_neg h2]
  by_cases h3 : t.k = 3 ∧ (t.r < 0 ∨ n ≤ t.r ∨ t.e < 0 ∨ (ps.length : Int) ≤ t.e)
  · rw [if_pos h3]; exact ⟨fun h => (by cases h), fun h => by have := h.rr h3.1; omega⟩
  rw [if_neg h3]
  by_cases h4 : ∃ f ∈ t.ar, f < 0 ∨ (ps.length : Int) ≤ f
  · rw [if_pos h4]; exact ⟨fun h => (by cases h), fun h => by obtain ⟨f, hf, hb⟩ := h4; have := h.fr f hf; omega⟩
  rw [if_neg h4]
  by_cases h5 : t.k = 4 ∧ (t.ar.length = 0 ∨ 65535 < t.ar.length)
  · rw [if_pos h5]; exact ⟨fun h => (by cases h), fun h => by have := h.tl h5.1; omega⟩
  rw [if_neg h5]
  by_cases h6 : 32 < kidM (depL ps) t + 1
  · rw [if_pos h6]; exact ⟨fun h => (by cases h), fun h => by have := h.dp; omega⟩
  rw [if_neg h6]
  by_cases h7 : t ∈ ps
  · rw [if_pos h7]; exact ⟨fun h => (by cases h), fun h => absurd h7 h.nw⟩
  rw [if_neg h7]
  refine ⟨fun _ => ⟨by omega, by omega, fun h => ?_, fun h => ?_, fun h => ?_, fun f hf => ?_, fun h => by omega, by omega, h7⟩, fun _ => rfl⟩
  · have h8 : ¬ (t.m = true ∨ t.r ≠ 0 ∨ t.e ≠ 0) := fun h9 => h2 (.inl ⟨h, h9⟩)
    refine ⟨by simpa using fun h9 => h8 (.inl h9), ?_, ?_⟩
    · exact Classical.byContradiction fun h9 => h8 (.inr (.inl h9))
    · exact Classical.byContradiction fun h9 => h8 (.inr (.inr h9))
  · have h8 : ¬ 0 < t.ar.length := fun h9 => h2 (.inr ⟨h, h9⟩)
    exact List.eq_nil_of_length_eq_zero (by omega)
  · have h8 : ¬ (t.r < 0 ∨ n ≤ t.r ∨ t.e < 0 ∨ (ps.length : Int) ≤ t.e) := fun h9 => h3 ⟨h, h9⟩
    omega
  · have h8 : ¬ (f < 0 ∨ (ps.length : Int) ≤ f) := fun h9 => h4 ⟨f, hf, h9⟩
    omega
theorem chkS_ok {n : Int} : ∀ {ts ps : List TyS}, chkS n ps ts = 0 ↔ ∀ i (h : i < ts.length), Ok1 (ps ++ ts.take i) n ts[i]
  | [], ps => ⟨fun _ i h => by simp at h, fun _ => rfl⟩
  | t :: ts, ps => by
    rw [chkS]
    by_cases h : chk1 ps n t = 0
    · rw [if_pos h, chkS_ok]
      constructor
      · intro h1 i hi
        cases i with
        | zero => simpa using chk1_ok.1 h
        | succ i => simpa using h1 i (by simpa using hi)
      · intro h1 i hi
        have h2 : Ok1 (ps ++ (t :: ts).take (i + 1)) n ts[i] := h1 (i + 1) (by simpa using hi)
        simpa using h2
    · rw [if_neg h]
      refine ⟨fun h1 => absurd h1 h, fun h1 => absurd (chk1_ok.2 ?_) h⟩
      have h2 : Ok1 (ps ++ (t :: ts).take 0) n t := h1 0 (by simp)
      simpa using h2
theorem chkT_ok {ts : List TyS} {n : Int} : chkT ts n = 0 ↔ ts.length ≤ 65535 ∧ ∀ i (h : i < ts.length), Ok1 (ts.take i) n ts[i] := by
  unfold chkT
  by_cases h : 65535 < ts.length
  · rw [if_pos h]; exact ⟨fun h => (by cases h), fun h' => by omega⟩
  · rw [if_neg h, chkS_ok]
    simp only [List.nil_append]
    exact ⟨fun h' => ⟨by omega, h'⟩, fun h' => h'.2⟩
theorem wf_of_ok {ts : List TyS} {n : Int} (h : ∀ i (h : i < ts.length), Ok1 (ts.take i) n ts[i]) : wfT ts := fun i hi => by
  have h1 := h i hi
  have e : (ts.take i).length = i := by rw [List.length_take]; omega
  refine ⟨fun hk => ?_, fun x hx => ?_⟩
  · have := h1.rr hk; rw [e] at this; omega
  · have := h1.fr x hx; rw [e] at this; omega
theorem wfT_take {ts : List TyS} (h : wfT ts) (n : Nat) : wfT (ts.take n) := fun i hi => by
  rw [List.length_take] at hi
  have := h i (by omega)
  rw [List.getElem_take]
  exact this
theorem chkS_snoc {n : Int} : ∀ {ts ps : List TyS} {t : TyS}, chkS n ps ts = 0 → chkS n ps (ts ++ [t]) = chk1 (ps ++ ts) n t
  | [], ps, t, _ => by
    rw [List.nil_append, List.append_nil, chkS]
    by_cases h : chk1 ps n t = 0
    · rw [if_pos h, h]; rfl
    · rw [if_neg h]
  | u :: ts, ps, t, h => by
    rw [chkS] at h
    by_cases h1 : chk1 ps n u = 0
    · rw [if_pos h1] at h
      rw [List.cons_append, chkS, if_pos h1, chkS_snoc h]
      simp
    · rw [if_neg h1] at h; exact absurd h h1
theorem chkS_app {n : Int} : ∀ {ts us ps : List TyS}, chkS n ps ts ≠ 0 → chkS n ps (ts ++ us) = chkS n ps ts
  | [], us, ps, h => absurd rfl h
  | t :: ts, us, ps, h => by
    rw [chkS] at h
    rw [List.cons_append, chkS, chkS]
    by_cases h1 : chk1 ps n t = 0
    · rw [if_pos h1] at h ⊢
      rw [if_pos h1, chkS_app h]
    · rw [if_neg h1, if_neg h1]
theorem ok_pair {x : X} (h : DT.ok (.array 2 (.int .i64)) x) : ∃ a b : Int, x = .agg [xI a, xI b] ∧ I64 a ∧ I64 b := by
  simp only [DT.ok] at h
  obtain ⟨xs, rfl, hxl, hxs⟩ := h
  match xs, hxl, hxs with
  | [y1, y2], _, hxs =>
    obtain ⟨n1, rfl, k1⟩ := ok_i64 (show DT.ok (.int .i64) y1 from by simp only [DT.ok]; exact hxs y1 (by simp))
    obtain ⟨n2, rfl, k2⟩ := ok_i64 (show DT.ok (.int .i64) y2 from by simp only [DT.ok]; exact hxs y2 (by simp))
    exact ⟨n1, n2, rfl, k1, k2⟩
end Go.Proofs.YtgfhgeelfaalmaaGreatDoor
