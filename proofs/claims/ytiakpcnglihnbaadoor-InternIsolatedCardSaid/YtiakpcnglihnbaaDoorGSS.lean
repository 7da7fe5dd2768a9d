/- Lemmas and contracts of functions, several texts in one: SS BA BC SD. -/
import Derived.Shelf.Sort.Plain
import Derived.Shelf.Slices.In.SortNone
import Derived.Test.YtiakpcnglihnbaaDoorGY
/- slices.Sort of an own row of strings: the kit's contract in the logic's words. (posT, posT_ok: as the kit's laying command tells them for this program.) -/
namespace Go.Proofs.YtiakpcnglihnbaaDoor
open Go.RowKit Go.Sort
set_option linter.unusedVariables false
set_option linter.unusedSimpArgs false
/-- Where the parts of the sort stand here. -/
def posT : Go.Shelf.Ren where
  f := fun x => match x with
    | 190 => 27
    | 125 => 54
    | 258 => 53
    | 128 => 80
    | 129 => 81
    | 302 => 71
    | 303 => 72
    | 304 => 73
    | 305 => 74
    | 306 => 75
    | 307 => 76
    | 308 => 77
    | 309 => 78
    | 310 => 79
    | 333 => 89
    | 329 => 90
    | 330 => 91
    | 334 => 92
    | 335 => 93
    | 336 => 94
    | 344 => 99
    | n => n
  t := fun x => match x with
    | 31 => 24
    | 3 => 3
    | 46 => 77
    | 0 => 0
    | 51 => 106
    | 53 => 57
    | 4 => 4
    | 183 => 99
    | 182 => 98
    | 131 => 31
    | 5 => 5
    | 9 => 9
    | 218 => 115
    | 222 => 119
    | 228 => 129
    | 229 => 130
    | n => n
  g := fun n => n

theorem posT_ok : Lays.n190 Tryd.prog posT where
  mixed := by kernel_rfl
  f125 := Tryd.func54.trans (congrArg some (by kernel_rfl))
  f128 := Tryd.func80.trans (congrArg some (by kernel_rfl))
  f129 := Tryd.func81.trans (congrArg some (by kernel_rfl))
  f190 := Tryd.func27.trans (congrArg some (by kernel_rfl))
  f336 := Tryd.func94.trans (congrArg some (by kernel_rfl))
  f308 := Tryd.func77.trans (congrArg some (by kernel_rfl))
  f258 := Tryd.func53.trans (congrArg some (by kernel_rfl))
  f302 := Tryd.func71.trans (congrArg some (by kernel_rfl))
  f303 := Tryd.func72.trans (congrArg some (by kernel_rfl))
  f304 := Tryd.func73.trans (congrArg some (by kernel_rfl))
  f305 := Tryd.func74.trans (congrArg some (by kernel_rfl))
  f306 := Tryd.func75.trans (congrArg some (by kernel_rfl))
  f307 := Tryd.func76.trans (congrArg some (by kernel_rfl))
  f309 := Tryd.func78.trans (congrArg some (by kernel_rfl))
  f310 := Tryd.func79.trans (congrArg some (by kernel_rfl))
  f333 := Tryd.func89.trans (congrArg some (by kernel_rfl))
  f329 := Tryd.func90.trans (congrArg some (by kernel_rfl))
  f330 := Tryd.func91.trans (congrArg some (by kernel_rfl))
  f334 := Tryd.func92.trans (congrArg some (by kernel_rfl))
  f335 := Tryd.func93.trans (congrArg some (by kernel_rfl))
  f344 := Tryd.func99.trans (congrArg some (by kernel_rfl))
  t0 := Tryd.underlying0
  a0 := Tryd.isAgg0
  z0 := Tryd.sizeOf0
  v0 := Tryd.zeroValue0
  t3 := Tryd.underlying3
  a3 := Tryd.isAgg3
  z3 := Tryd.sizeOf3
  v3 := Tryd.zeroValue3
  t4 := Tryd.underlying4
  a4 := Tryd.isAgg4
  z4 := Tryd.sizeOf4
  v4 := Tryd.zeroValue4
  t5 := Tryd.underlying5
  a5 := Tryd.isAgg5
  z5 := Tryd.sizeOf5
  v5 := Tryd.zeroValue5
  t9 := Tryd.underlying9
  a9 := Tryd.isAgg9
  z9 := Tryd.sizeOf9
  v9 := Tryd.zeroValue9
  t31 := Tryd.underlying24
  a31 := Tryd.isAgg24
  z31 := Tryd.sizeOf24
  v31 := Tryd.zeroValue24
  t46 := Tryd.underlying77
  a46 := Tryd.isAgg77
  z46 := Tryd.sizeOf77
  v46 := Tryd.zeroValue77
  t51 := Tryd.underlying106
  a51 := Tryd.isAgg106
  z51 := Tryd.sizeOf106
  v51 := Tryd.zeroValue106
  t53 := Tryd.underlying57
  a53 := Tryd.isAgg57
  z53 := Tryd.sizeOf57
  v53 := Tryd.zeroValue57
  t131 := Tryd.underlying31
  a131 := Tryd.isAgg31
  z131 := Tryd.sizeOf31
  v131 := Tryd.zeroValue31
  t182 := Tryd.underlying98
  a182 := Tryd.isAgg98
  z182 := Tryd.sizeOf98
  v182 := Tryd.zeroValue98
  t183 := Tryd.underlying99
  a183 := Tryd.isAgg99
  z183 := Tryd.sizeOf99
  v183 := Tryd.zeroValue99
  t218 := Tryd.underlying115
  a218 := Tryd.isAgg115
  z218 := Tryd.sizeOf115
  v218 := Tryd.zeroValue115
  t222 := Tryd.underlying119
  a222 := Tryd.isAgg119
  z222 := Tryd.sizeOf119
  v222 := Tryd.zeroValue119
  t228 := Tryd.underlying129
  a228 := Tryd.isAgg129
  z228 := Tryd.sizeOf129
  v228 := Tryd.zeroValue129
  t229 := Tryd.underlying130
  a229 := Tryd.isAgg130
  z229 := Tryd.sizeOf130
  v229 := Tryd.zeroValue130

def mkS (t : List UInt8) : ByteArray := ⟨t.toArray⟩
theorem mkS_toL (t : List UInt8) : (mkS t).toList = t := by rw [ByteArray.toList_eq]; rfl
theorem mkS_of (s : ByteArray) : mkS s.toList = s := toL_inj.1 (mkS_toL _)
def srtL (l : List ByteArray) : List (List UInt8) := (l.map (·.toList)).mergeSort fun x y => decide (x ≤ y)
/-- The strings in order. -/
def sortS (l : List ByteArray) : List ByteArray := (srtL l).map mkS
theorem srtL_length (l : List ByteArray) : (srtL l).length = l.length := by unfold srtL; rw [List.length_mergeSort, List.length_map]
theorem sortS_length (l : List ByteArray) : (sortS l).length = l.length := by unfold sortS; rw [List.length_map, srtL_length]
theorem sortS_get {l : List ByteArray} {j : Nat} (h : j < l.length) : mkS ((srtL l).toArray[j]!) = (sortS l)[j]'(by rw [sortS_length]; exact h) := by
  have h' : j < (srtL l).length := by rw [srtL_length]; exact h
  rw [getElem!_pos (srtL l).toArray j (by simpa using h')]
  simp [sortS]
set_option maxHeartbeats 1000000 in
theorem sortS_own {H : Heap} {b o : Nat} {T : TypeId} {l : List ByteArray} (hb : H b = some (.row T o 1 (l.map sD))) (hl : l.length < 4611686018427387904) :
    Does Tryd.prog 27 [.os b o 1 0 l.length] H fun d H' => d = .tup [] ∧ H' = H.upd b (.row T o 1 ((sortS l).map sD)) :=
  And.intro (ent_of Tryd.func27 rfl rfl) fun w vs hvs hH => by
    simp only [valsAll] at hvs
    obtain ⟨u, _, rfl, h1, rfl⟩ := hvs
    simp only [D.is] at h1
    obtain ⟨A, c, rfl, hnc, h1⟩ := h1
    obtain ⟨cs, fr, hcs, hfr, hsz, hrows⟩ := hH _ _ hb
    rw [List.length_map, Nat.mul_one] at hsz
    have hlt := hH.lt hb
    have hcell : ∀ j (hj : j < l.length), cs[o + j]? = some (.string l[j]) := fun j hj => by
      have := (rowsAt_get hrows j [.val (.string l[j])] (by rw [List.getElem?_map, List.getElem?_eq_getElem hj]; rfl)).2
      simp only [cellsAt, D.is] at this
      obtain ⟨⟨v, hv, _, rfl⟩, _⟩ := this
      rw [cell_of_row _ _ _ _ _ _ hcs, Nat.mul_one] at hv
      exact hv
    by_cases hl0 : l.length = 0
    · have hln : l = [] := List.eq_nil_of_length_eq_zero hl0
      subst hln
      refine (Any.slices_Sort_string_none posT_ok A c w).mono ?_
      rintro e w' ⟨rfl, rfl⟩
      have hs : sortS [] = [] := List.eq_nil_of_length_eq_zero (sortS_length [])
      refine ⟨_, _, H, rfl, (by simp only [D.is]; exact ⟨[], rfl, by simp only [valsAll]⟩), hH, Ev.refl _ _, rfl, ?_⟩
      funext b'
      by_cases hbb : b' = b
      · subst hbb; rw [Heap.upd_same, hb, hs]
      · rw [Heap.upd_ne hbb]
    have hA : A = some ⟨b, o, none⟩ := by
      rcases h1 with h1 | h1
      · omega
      · rw [h1.1]; simp
    subst hA
    have hsl := sortS_length l
    have hholds : Holds encStr w b o (l.map (·.toList)).toArray := fun j hj => by
      have hj' : j < l.length := by simpa using hj
      refine ⟨?_, ?_⟩
      · rw [cell_of_row _ _ _ _ _ _ hcs, hcell j hj', getElem!_pos (l.map (·.toList)).toArray j hj]
        have e : (l.map (·.toList)).toArray[j] = l[j].toList := by simp
        rw [e]
        show _ = some (Value.string (mkS l[j].toList))
        rw [mkS_of]
      · have := hfr.not (o + j) (by omega)
        simp only [World.frozen?, hcs]
        simp
        omega
    have hml : (l.map (·.toList)).length = l.length := List.length_map _
    have hsort := Any.slices_Sort_string posT_ok b o c (l.map (·.toList)) w hholds hlt (by rw [hml]; exact hl)
    rw [hml] at hsort
    refine hsort.mono ?_
    rintro e w' ⟨rfl, n, os, rfl⟩
    obtain ⟨ar, har⟩ : ∃ ar, ar = (srtL l).toArray := ⟨_, rfl⟩
    have hars : ar.size = l.length := by rw [har]; simpa using srtL_length l
    rw [show ((l.map (·.toList)).mergeSort fun x y => decide (x ≤ y)).toArray = ar from har.symm]
    have hwb : (grow (putRow encStr (Go.Sort.ahead w n) b o ar) os).heap[b]? = some (Obj.cells (putCells encStr o ar cs) T fr) := by
      rw [heap_grow_old _ _ (by rw [size_putRow]; exact hlt)]
      show (w.heap.modify b _)[b]? = _
      rw [Array.getElem?_modify, if_pos rfl, hcs]
      rfl
    have hwo : ∀ b', b' < w.heap.size → b' ≠ b → (grow (putRow encStr (Go.Sort.ahead w n) b o ar) os).heap[b']? = w.heap[b']? := fun b' h hne => by
      rw [heap_grow_old _ _ (by rw [size_putRow]; exact h)]
      show (w.heap.modify b _)[b']? = _
      rw [Array.getElem?_modify, if_neg (Ne.symm hne)]
    have hev : Ev H w (H.upd b (.row T o 1 ((sortS l).map sD))) (grow (putRow encStr (Go.Sort.ahead w n) b o ar) os) := by
      refine ⟨rfl, rfl, rfl, ?_, fun b' h1 h2 => ?_, fun b' cs' t' fr' h => ?_⟩
      · rw [size_grow, size_putRow]; exact Nat.le_add_right _ _
      · have hne : b' ≠ b := fun e => by rw [e, hb] at h2; cases h2
        exact ⟨hwo b' h1 hne, by rw [Heap.upd_ne hne]; exact h2⟩
      · by_cases hne : b' = b
        · subst hne
          rw [hcs] at h
          cases h
          exact ⟨_, _, hwb, by simp [putCells]⟩
        · exact ⟨cs', fr', by rw [hwo b' (Array.getElem?_eq_some_iff.1 h).1 hne]; exact h, rfl⟩
    refine ⟨_, _, _, rfl, (by simp only [D.is]; exact ⟨[], rfl, by simp only [valsAll]⟩), ?_, hev, rfl, rfl⟩
    intro b' y hy
    by_cases hne : b' = b
    · subst hne
      rw [Heap.upd_same] at hy
      injection hy with hy
      subst hy
      refine ⟨_, fr, hwb, ?_, ?_, rowsAt_of fun i el hi => ?_⟩
      · rw [show (putCells encStr o ar cs).size = cs.size by simp [putCells]]; exact hfr
      · rw [show (putCells encStr o ar cs).size = cs.size by simp [putCells], List.length_map, hsl]; omega
      · rw [List.getElem?_map] at hi
        have hil : i < l.length := by
          rcases Nat.lt_or_ge i (sortS l).length with h | h
          · omega
          · rw [List.getElem?_eq_none h] at hi; cases hi
        rw [List.getElem?_eq_getElem (by omega)] at hi
        injection hi with hi
        subst hi
        refine ⟨rfl, ?_⟩
        simp only [sD, strD, cellsAt, D.is]
        refine ⟨⟨_, ?_, rfl, rfl⟩, trivial⟩
        rw [cell_of_row _ _ _ _ _ _ hwb, Nat.mul_one]
        have h2 : o + i < cs.size := by omega
        have h3 := sortS_get hil
        rw [← har] at h3
        rw [getElem!_pos ar i (by omega)] at h3
        simp [putCells, h2, hars, hil]
        exact h3
    · rw [Heap.upd_ne hne] at hy
      exact hev.objAt (hwo b' (hH.lt hy) hne) (hH b' y hy)
/-- .. of a slice that is still nil. -/
theorem sortS_nil (H : Heap) : Does Tryd.prog 27 [.val (.slice none 0 0)] H fun d H' => d = .tup [] ∧ H = H' :=
  And.intro (ent_of Tryd.func27 rfl rfl) fun w vs hvs hH => by
    simp only [valsAll] at hvs
    obtain ⟨u, _, rfl, h1, rfl⟩ := hvs
    simp only [D.is] at h1
    subst h1
    refine (Any.slices_Sort_string_none posT_ok none 0 w).mono ?_
    rintro e w' ⟨rfl, rfl⟩
    exact ⟨_, _, H, rfl, (by simp only [D.is]; exact ⟨[], rfl, by simp only [valsAll]⟩), hH, Ev.refl _ _, rfl, rfl⟩
end Go.Proofs.YtiakpcnglihnbaaDoor
/- Strings in order, in plain Lean: runs once each, inserting; names. -/
namespace Go.Proofs.YtiakpcnglihnbaaDoor
open Go.RowKit
set_option linter.unusedVariables false
set_option linter.unusedSimpArgs false
def ltB (a b : ByteArray) : Prop := a.toList < b.toList
def leB (a b : ByteArray) : Prop := a.toList ≤ b.toList
theorem ltB_irr (a : ByteArray) : ¬ ltB a a := List.lt_irrefl _
theorem ltB_trans {a b c : ByteArray} (h : ltB a b) (h2 : ltB b c) : ltB a c := List.lt_trans h h2
theorem ltB_asymm {a b : ByteArray} (h : ltB a b) : ¬ ltB b a := List.lt_asymm h
theorem leB_of {a b : ByteArray} (h : ¬ ltB b a) : leB a b := h
theorem ltB_of {a b : ByteArray} (h : leB a b) (hne : a ≠ b) : ltB a b := by
  refine Classical.byContradiction fun hn => hne (toL_inj.1 (List.le_antisymm h hn))
theorem strictB_eq : ∀ {l m : List ByteArray}, l.Pairwise ltB → m.Pairwise ltB → (∀ x, x ∈ l ↔ x ∈ m) → l = m
  | [], [], _, _, _ => rfl
  | [], b :: m, _, _, h => by have := (h b).2 (by simp); simp at this
  | a :: l, [], _, _, h => by have := (h a).1 (by simp); simp at this
  | a :: l, b :: m, h1, h2, h => by
    rw [List.pairwise_cons] at h1 h2
    have hab : a = b := by
      have ha := (h a).1 (by simp)
      have hb := (h b).2 (by simp)
      rcases List.mem_cons.1 ha with e | ha
      · exact e
      rcases List.mem_cons.1 hb with e | hb
      · exact e.symm
      exact absurd (h1.1 b hb) (ltB_asymm (h2.1 a ha))
    subst hab
    rw [strictB_eq h1.2 h2.2 fun x => ?_]
    constructor
    · intro hx
      have := h1.1 x hx
      rcases List.mem_cons.1 ((h x).1 (List.mem_cons_of_mem _ hx)) with e | h
      · subst e; exact absurd this (ltB_irr _)
      · exact h
    · intro hx
      have := h2.1 x hx
      rcases List.mem_cons.1 ((h x).2 (List.mem_cons_of_mem _ hx)) with e | h
      · subst e; exact absurd this (ltB_irr _)
      · exact h
def cmpFS (acc : List ByteArray) (x : ByteArray) : List ByteArray := if acc.getLast? = some x then acc else acc ++ [x]
/-- Runs of equal strings, once each. -/
def cmpS (l : List ByteArray) : List ByteArray := l.foldl cmpFS []
theorem cmpS_snoc (l : List ByteArray) (x : ByteArray) : cmpS (l ++ [x]) = cmpFS (cmpS l) x := by unfold cmpS; rw [List.foldl_append]; rfl
theorem cmpFS_last (acc : List ByteArray) (x : ByteArray) : (cmpFS acc x).getLast? = some x := by
  unfold cmpFS
  split
  · assumption
  · simp
theorem cmpS_last {l : List ByteArray} {i : Nat} (h : i < l.length) : (cmpS (l.take (i + 1))).getLast? = some l[i] := by
  rw [List.take_succ_eq_append_getElem h, cmpS_snoc, cmpFS_last]
theorem cmpS_take {l : List ByteArray} {i : Nat} (h : i + 1 < l.length) : cmpS (l.take (i + 1 + 1)) = if l[i] = l[i + 1] then cmpS (l.take (i + 1)) else cmpS (l.take (i + 1)) ++ [l[i + 1]] := by
  rw [List.take_succ_eq_append_getElem h, cmpS_snoc]
  have h1 := cmpS_last (l := l) (i := i) (by omega)
  unfold cmpFS
  rw [h1]
  simp only [Option.some.injEq]
theorem snocS_ind {p : List ByteArray → Prop} (h0 : p []) (h1 : ∀ l a, p l → p (l ++ [a])) (l : List ByteArray) : p l := by
  rw [← List.reverse_reverse l]
  induction l.reverse with
  | nil => exact h0
  | cons a t ih => rw [List.reverse_cons]; exact h1 _ _ ih
theorem cmpS_mem {l : List ByteArray} {x : ByteArray} : x ∈ cmpS l ↔ x ∈ l := by
  induction l using snocS_ind with
  | h0 => exact Iff.rfl
  | h1 l a ih =>
    rw [cmpS_snoc, List.mem_append, List.mem_singleton, ← ih]
    unfold cmpFS
    split
    · rename_i h
      exact ⟨.inl, fun h' => h'.elim id fun e => e ▸ List.mem_of_getLast? h⟩
    · rw [List.mem_append, List.mem_singleton]
theorem cmpS_len (l : List ByteArray) : (cmpS l).length ≤ l.length := by
  induction l using snocS_ind with
  | h0 => exact Nat.le_refl _
  | h1 l a ih =>
    rw [cmpS_snoc, List.length_append]
    unfold cmpFS
    split
    · simp; omega
    · rw [List.length_append]; simp; omega
theorem cmpS_strict {l : List ByteArray} (h : l.Pairwise leB) : (cmpS l).Pairwise ltB := by
  induction l using snocS_ind with
  | h0 => exact List.Pairwise.nil
  | h1 l a ih =>
    rw [List.pairwise_append] at h
    have h1 := ih h.1
    rw [cmpS_snoc]
    unfold cmpFS
    split
    · exact h1
    · rename_i hne
      rw [List.pairwise_append]
      refine ⟨h1, by simp, fun x hx y hy => ?_⟩
      rw [List.mem_singleton] at hy
      subst hy
      have hle := h.2.2 x (cmpS_mem.1 hx) y (by simp)
      refine ltB_of hle fun h3 => ?_
      subst h3
      apply hne
      obtain ⟨q, hq⟩ : ∃ q, (cmpS l).getLast? = some q := by
        cases e : (cmpS l).getLast? with
        | none => rw [List.getLast?_eq_none_iff] at e; rw [e] at hx; cases hx
        | some q => exact ⟨q, rfl⟩
      have hqm := List.mem_of_getLast? hq
      have hql := h.2.2 q (cmpS_mem.1 hqm) x (by simp)
      obtain ⟨ys, hys⟩ := List.getLast?_eq_some_iff.1 hq
      rw [hys, List.mem_append, List.mem_singleton] at hx
      rcases hx with hx | hx
      · rw [hys, List.pairwise_append] at h1
        exact absurd (h1.2.2 x hx q (by simp)) hql
      · rw [hq, hx]
theorem srtL_perm (l : List ByteArray) {t : List UInt8} : t ∈ srtL l ↔ t ∈ l.map (·.toList) := List.mem_mergeSort
theorem sortS_mem {l : List ByteArray} {x : ByteArray} : x ∈ sortS l ↔ x ∈ l := by
  unfold sortS
  rw [List.mem_map]
  constructor
  · rintro ⟨t, ht, rfl⟩
    obtain ⟨y, hy, rfl⟩ := List.mem_map.1 ((srtL_perm l).1 ht)
    rw [mkS_of]; exact hy
  · intro h
    exact ⟨x.toList, (srtL_perm l).2 (List.mem_map.2 ⟨x, h, rfl⟩), mkS_of x⟩
theorem sortS_le (l : List ByteArray) : (sortS l).Pairwise leB := by
  have h1 : (srtL l).Pairwise fun a b => decide (a ≤ b) = true := List.pairwise_mergeSort (fun a b c h1 h2 => by simp only [decide_eq_true_eq] at *; exact List.le_trans h1 h2) (fun a b => by simp only [Bool.or_eq_true, decide_eq_true_eq]; exact List.le_total a b) _
  unfold sortS
  rw [List.pairwise_map]
  refine h1.imp fun {a b} h => ?_
  unfold leB
  rw [mkS_toL, mkS_toL]
  simpa using h
/-- Inserting in ascending order. -/
def insT (s : ByteArray) : List ByteArray → List ByteArray
  | [] => [s]
  | x :: l => if s = x then x :: l else if s.toList < x.toList then s :: x :: l else x :: insT s l
theorem insT_mem {s : ByteArray} {x : ByteArray} : ∀ {l : List ByteArray}, x ∈ insT s l ↔ x = s ∨ x ∈ l
  | [] => by simp [insT]
  | y :: l => by
    unfold insT
    split
    · rename_i h; subst h; simp
    · split
      · simp
      · rw [List.mem_cons, insT_mem, List.mem_cons]
        constructor
        · rintro (h | h | h)
          · exact .inr (.inl h)
          · exact .inl h
          · exact .inr (.inr h)
        · rintro (h | h | h)
          · exact .inr (.inl h)
          · exact .inl h
          · exact .inr (.inr h)
theorem insT_strict {s : ByteArray} : ∀ {l : List ByteArray}, l.Pairwise ltB → (insT s l).Pairwise ltB
  | [], _ => by simp [insT]
  | y :: l, h => by
    unfold insT
    split
    · exact h
    · rename_i hne
      split
      · rename_i hlt
        rw [List.pairwise_cons]
        refine ⟨fun z hz => ?_, h⟩
        rw [List.pairwise_cons] at h
        rcases List.mem_cons.1 hz with rfl | hz
        · exact hlt
        · exact ltB_trans hlt (h.1 z hz)
      · rename_i hnl
        rw [List.pairwise_cons] at h ⊢
        refine ⟨fun z hz => ?_, insT_strict h.2⟩
        rcases insT_mem.1 hz with rfl | hz
        · exact ltB_of hnl fun e => hne e.symm
        · exact h.1 z hz
theorem insT_len {s : ByteArray} : ∀ {l : List ByteArray}, (insT s l).length ≤ l.length + 1
  | [] => by simp [insT]
  | y :: l => by
    unfold insT
    have := @insT_len s l
    split
    · simp
    · split
      · simp
      · simp; omega
def insAll (l : List ByteArray) : List ByteArray := l.foldl (fun acc x => insT x acc) []
theorem insAll_snoc (l : List ByteArray) (x : ByteArray) : insAll (l ++ [x]) = insT x (insAll l) := by unfold insAll; rw [List.foldl_append]; rfl
theorem insAll_mem {l : List ByteArray} {x : ByteArray} : x ∈ insAll l ↔ x ∈ l := by
  induction l using snocS_ind with
  | h0 => exact Iff.rfl
  | h1 l a ih => rw [insAll_snoc, insT_mem, ih, List.mem_append, List.mem_singleton, or_comm]
theorem insAll_strict (l : List ByteArray) : (insAll l).Pairwise ltB := by
  induction l using snocS_ind with
  | h0 => exact List.Pairwise.nil
  | h1 l a ih => rw [insAll_snoc]; exact insT_strict ih
theorem insAll_len (l : List ByteArray) : (insAll l).length ≤ l.length := by
  induction l using snocS_ind with
  | h0 => exact Nat.le_refl _
  | h1 l a ih => rw [insAll_snoc, List.length_append, List.length_singleton]; exact Nat.le_trans insT_len (by omega)
theorem names_eq (l : List ByteArray) : cmpS (sortS l) = insAll l :=
  strictB_eq (cmpS_strict (sortS_le l)) (insAll_strict l) fun x => by rw [cmpS_mem, sortS_mem, insAll_mem]
set_option maxRecDepth 100000
theorem get_strs {l : List ByteArray} {i : Nat} (h : i < l.length) : (l.map sD)[i]? = some [.val (.string l[i])] := by
  rw [List.getElem?_map, List.getElem?_eq_getElem h]; rfl
set_option maxHeartbeats 1000000 in
theorem compactS_nil (H : Heap) : Does Tryd.prog 28 [.val (.slice none 0 0)] H fun d H' => d = .val (.slice none 0 0) ∧ H = H' := by
  refine does_of _ _ Tryd.func28 rfl rfl Tryd.ntmps28 Tryd.results28 (by simp only [List.length_cons, List.length_nil]; omega) fun w0 Q hret => ?_
  (have fs := @i64.eq_1; (repeat (first | refine hGx _ ?_ | refine hNx _ ?_ | refine W_skip ?_ | refine W_exit ?_ | refine W_ret ?_ | refine W_label ?_ | refine W_scope ?_ | refine W_block ?_ | refine W_seq ?_ | ((first | refine tS fun N hNx => ?_ | refine WL_gE rfl rfl (by kernel_rfl) (by kernel_rfl) fun G hGx => ?_ | refine vcOpsS_sound (by kernel_rfl) ?_ | refine W_ifE fun A B hAx hBx => ?_); refine evT ?_; (first | refine hGx _ ?_ | refine hNx _ ?_ | refine hAx ?_ | refine hBx ?_ | skip)))); (try clear fs))
  (first | (show Q .ret _) | (show Q .normal _) | skip); refine hret _ _ (by first | exact .inr rfl | exact .inl rfl) (by first | rfl | assumption | (simp only [put_df, withH_df]; assumption)) ?_; have fs := @i64.eq_1; refine evT ?_; clear fs
  exact ⟨_, Heap.le_refl _, by first | rfl | exact ⟨rfl, rfl⟩⟩
set_option maxHeartbeats 1000000 in
theorem compactS_own {H : Heap} {b o : Nat} {T : TypeId} {l : List ByteArray} (hb : H b = some (.row T o 1 (l.map sD))) (hl : l.length ≤ 140737488351232) :
    Does Tryd.prog 28 [.os b o 1 0 l.length] H fun d H' => d = .os b o 1 0 (cmpS l).length ∧ ∃ cur : List ByteArray, H' = H.upd b (.row T o 1 (cur.map sD)) ∧ cur.take (cmpS l).length = cmpS l := by
  have hll : (List.map sD l).length = l.length := List.length_map _
  refine does_of _ _ Tryd.func28 rfl rfl Tryd.ntmps28 Tryd.results28 (by simp only [List.length_cons, List.length_nil]; omega) fun w0 Q hret => ?_
  by_cases h2 : l.length < 2
  · have q1 : ((l.length : Int) < 2) = True := eq_true (by omega)
    have hcl : cmpS l = l := by
      match l, h2 with
      | [], _ => rfl
      | [a], _ => rfl
    (have fs := And.intro @i64.eq_1 (And.intro hll q1); (repeat (first | refine hGx _ ?_ | refine hNx _ ?_ | refine W_skip ?_ | refine W_exit ?_ | refine W_ret ?_ | refine W_label ?_ | refine W_scope ?_ | refine W_block ?_ | refine W_seq ?_ | ((first | refine tS fun N hNx => ?_ | refine WL_gE rfl rfl (by kernel_rfl) (by kernel_rfl) fun G hGx => ?_ | refine vcOpsS_sound (by kernel_rfl) ?_ | refine W_ifE fun A B hAx hBx => ?_); refine evT ?_; (first | refine hGx _ ?_ | refine hNx _ ?_ | refine hAx ?_ | refine hBx ?_ | skip)))); (try clear fs))
    (first | (show Q .ret _) | (show Q .normal _) | skip); refine hret _ _ (by first | exact .inr rfl | exact .inl rfl) (by first | rfl | assumption | (simp only [put_df, withH_df]; assumption)) ?_; have fs := @i64.eq_1; refine evT ?_; clear fs
    exact ⟨_, Heap.le_refl _, by rw [hcl], l, (upd_selfB hb).symm, by rw [hcl, List.take_length]⟩
  have q1 : ((l.length : Int) < 2) = False := eq_false (by omega)
  (have fs := And.intro @i64.eq_1 (And.intro hll q1); (repeat (first | refine hGx _ ?_ | refine hNx _ ?_ | refine W_skip ?_ | refine W_exit ?_ | refine W_ret ?_ | refine W_label ?_ | refine W_scope ?_ | refine W_block ?_ | refine W_seq ?_ | ((first | refine tS fun N hNx => ?_ | refine WL_gE rfl rfl (by kernel_rfl) (by kernel_rfl) fun G hGx => ?_ | refine vcOpsS_sound (by kernel_rfl) ?_ | refine W_ifE fun A B hAx hBx => ?_); refine evT ?_; (first | refine hGx _ ?_ | refine hNx _ ?_ | refine hAx ?_ | refine hBx ?_ | skip)))); (try clear fs))
  refine W_loopN (l.length - 1) (fun i s => s.df = [] ∧ s.fr 0 = .os b o 1 0 l.length ∧ s.fr 3 = i64 ((i + 1 : Nat) : Int) ∧ s.H = H ∧ i + 1 ≤ l.length ∧ cmpS (l.take (i + 1)) = l.take (i + 1)) ⟨rfl, rfl, rfl, rfl, by omega, by rw [List.take_succ_eq_append_getElem (show 0 < l.length by omega)]; rfl⟩ ?_
  rintro i s hi ⟨hdf, f0, f3, hH, hil, hcm⟩
  have hHb : s.H b = some (.row T o 1 (l.map sD)) := by rw [hH]; exact hb
  by_cases hik : i + 1 < l.length
  case neg =>
    have q2 : (((i + 1 : Nat) : Int) < (l.length : Int)) = False := eq_false (by omega)
    rw [List.take_of_length_le (by omega)] at hcm
    (have fs := And.intro f0 (And.intro f3 (And.intro @i64.eq_1 q2)); (repeat (first | refine hGx _ ?_ | refine hNx _ ?_ | refine W_skip ?_ | refine W_exit ?_ | refine W_ret ?_ | refine W_label ?_ | refine W_scope ?_ | refine W_block ?_ | refine W_seq ?_ | ((first | refine tS fun N hNx => ?_ | refine WL_gE rfl rfl (by kernel_rfl) (by kernel_rfl) fun G hGx => ?_ | refine vcOpsS_sound (by kernel_rfl) ?_ | refine W_ifE fun A B hAx hBx => ?_); refine evT ?_; (first | refine hGx _ ?_ | refine hNx _ ?_ | refine hAx ?_ | refine hBx ?_ | skip)))); (try clear fs))
    (first | (show Q .ret _) | (show Q .normal _) | skip); refine hret _ _ (by first | exact .inr rfl | exact .inl rfl) (by first | rfl | assumption | (simp only [put_df, withH_df]; assumption)) ?_; have fs := hdf; refine evT ?_; clear fs
    exact ⟨_, Heap.le_refl _, by rw [hcm], l, by rw [hH]; exact (upd_selfB hb).symm, by rw [hcm, List.take_length]⟩
  have q2 : (((i + 1 : Nat) : Int) < (l.length : Int)) = True := eq_true (by omega)
  have hx : ((i + 1 : Nat) : Int).toNat = i + 1 := Int.toNat_natCast _
  have hx0 : (i : Int).toNat = i := Int.toNat_natCast _
  have h00 : (0 : Int) ≤ ((i + 1 : Nat) : Int) := Int.natCast_nonneg _
  have h000 : (0 : Int) ≤ (i : Int) := Int.natCast_nonneg _
  have hg1 := get_strs hik
  have hg0 := get_strs (show i < l.length by omega)
  have hil0 : i < l.length := by omega
  have q3 : ((i : Int) < (l.length : Int)) = True := eq_true (by omega)
  have w1 : IntKind.i64.wrap (((i + 1 : Nat) : Int) - 1) = (i : Int) := by rw [wrap_i64_of (by omega)]; omega
  have w2 : IntKind.i64.wrap (((i + 1 : Nat) : Int) + 1) = ((i + 1 + 1 : Nat) : Int) := by rw [wrap_i64_of (by omega)]; omega
  have hct := cmpS_take hik
  by_cases he : l[i] = l[i + 1]
  case neg =>
    have q4 : (l[i + 1].toList = l[i].toList) = False := eq_false fun e => he (toL_inj.1 e).symm
    rw [if_neg he] at hct
    (have fs := And.intro f0 (And.intro f3 (And.intro @i64.eq_1 q2)); (repeat (first | refine hGx _ ?_ | refine hNx _ ?_ | refine W_skip ?_ | refine W_exit ?_ | refine W_ret ?_ | refine W_label ?_ | refine W_scope ?_ | refine W_block ?_ | refine W_seq ?_ | ((first | refine tS fun N hNx => ?_ | refine WL_gE rfl rfl (by kernel_rfl) (by kernel_rfl) fun G hGx => ?_ | refine vcOpsS_sound (by kernel_rfl) ?_ | refine W_ifE fun A B hAx hBx => ?_); refine evT ?_; (first | refine hGx _ ?_ | refine hNx _ ?_ | refine hAx ?_ | refine hBx ?_ | skip)))); (try clear fs))
    refine W_drawE (fun _ _ _ _ => False) (by kernel_rfl) (by kernel_rfl) (by kernel_rfl) fun N hNx => ?_; (have fs := And.intro f0 (And.intro f3 (And.intro @i64.eq_1 (And.intro hHb (And.intro hg1 (And.intro hg0 (And.intro hx (And.intro hx0 (And.intro h00 (And.intro h000 (And.intro hik (And.intro hil0 (And.intro hll (And.intro q2 (And.intro q3 (And.intro q4 w1))))))))))))))); (repeat ((first | refine vcD_g rfl rfl fun G hGx => ?_ | refine vcDS_to ?_); refine evD ?_; (first | refine hGx _ ?_ | refine hNx _ ?_ | skip))); (try clear fs))
    (have fs := And.intro f3 (And.intro @i64.eq_1 w2); (repeat (first | refine hGx _ ?_ | refine hNx _ ?_ | refine W_skip ?_ | refine W_exit ?_ | refine W_ret ?_ | refine W_label ?_ | refine W_scope ?_ | refine W_block ?_ | refine W_seq ?_ | ((first | refine tS fun N hNx => ?_ | refine WL_gE rfl rfl (by kernel_rfl) (by kernel_rfl) fun G hGx => ?_ | refine vcOpsS_sound (by kernel_rfl) ?_ | refine W_ifE fun A B hAx hBx => ?_); refine evT ?_; (first | refine hGx _ ?_ | refine hNx _ ?_ | refine hAx ?_ | refine hBx ?_ | skip)))); (try clear fs))
    exact ⟨by show i < l.length - 1; omega, hdf, f0, rfl, hH, by omega, by rw [hct, hcm, ← List.take_succ_eq_append_getElem hik]⟩
  have q4 : (l[i + 1].toList = l[i].toList) = True := eq_true (by rw [he])
  rw [if_pos he] at hct
  (have fs := And.intro f0 (And.intro f3 (And.intro @i64.eq_1 q2)); (repeat (first | refine hGx _ ?_ | refine hNx _ ?_ | refine W_skip ?_ | refine W_exit ?_ | refine W_ret ?_ | refine W_label ?_ | refine W_scope ?_ | refine W_block ?_ | refine W_seq ?_ | ((first | refine tS fun N hNx => ?_ | refine WL_gE rfl rfl (by kernel_rfl) (by kernel_rfl) fun G hGx => ?_ | refine vcOpsS_sound (by kernel_rfl) ?_ | refine W_ifE fun A B hAx hBx => ?_); refine evT ?_; (first | refine hGx _ ?_ | refine hNx _ ?_ | refine hAx ?_ | refine hBx ?_ | skip)))); (try clear fs))
  refine W_drawE (fun _ _ _ _ => False) (by kernel_rfl) (by kernel_rfl) (by kernel_rfl) fun N hNx => ?_; (have fs := And.intro f0 (And.intro f3 (And.intro @i64.eq_1 (And.intro hHb (And.intro hg1 (And.intro hg0 (And.intro hx (And.intro hx0 (And.intro h00 (And.intro h000 (And.intro hik (And.intro hil0 (And.intro hll (And.intro q2 (And.intro q3 (And.intro q4 w1))))))))))))))); (repeat ((first | refine vcD_g rfl rfl fun G hGx => ?_ | refine vcDS_to ?_); refine evD ?_; (first | refine hGx _ ?_ | refine hNx _ ?_ | skip))); (try clear fs))
  have q5 : (((i + 1 : Nat) : Int) ≤ (l.length : Int)) = True := eq_true (by omega)
  (have fs := And.intro f0 (And.intro f3 (And.intro @i64.eq_1 (And.intro q2 (And.intro hx (And.intro h00 (And.intro hll q5)))))); (repeat (first | refine hGx _ ?_ | refine hNx _ ?_ | refine W_skip ?_ | refine W_exit ?_ | refine W_ret ?_ | refine W_label ?_ | refine W_scope ?_ | refine W_block ?_ | refine W_seq ?_ | ((first | refine tS fun N hNx => ?_ | refine WL_gE rfl rfl (by kernel_rfl) (by kernel_rfl) fun G hGx => ?_ | refine vcOpsS_sound (by kernel_rfl) ?_ | refine W_ifE fun A B hAx hBx => ?_); refine evT ?_; (first | refine hGx _ ?_ | refine hNx _ ?_ | refine hAx ?_ | refine hBx ?_ | skip)))); (try clear fs))
  obtain ⟨n2, hn2⟩ : ∃ n2, n2 = l.length - (i + 1) := ⟨_, rfl⟩
  rw [← hn2]
  refine W_loopN (n2 - 1) (fun j s => s.df = [] ∧ s.fr 0 = .os b o 1 0 l.length ∧ s.fr 4 = .os b o 1 (i + 1) n2 ∧ s.fr 5 = i64 ((j + 1 : Nat) : Int) ∧ j + 1 ≤ n2 ∧ ∃ (cur : List ByteArray) (k : Nat), s.H = H.upd b (.row T o 1 (cur.map sD)) ∧ cur.length = l.length ∧ s.fr 3 = i64 k ∧ cur.take k = cmpS (l.take (i + 1 + j + 1)) ∧ (∀ m (h : m < l.length) (h' : m < cur.length), i + 1 + j ≤ m → cur[m] = l[m]) ∧ k ≤ i + 1 + j) ⟨hdf, f0, rfl, rfl, by omega, l, i + 1, by show s.H = _; rw [hH]; exact (upd_selfB hb).symm, rfl, f3, by show _ = cmpS (l.take (i + 1 + 1)); rw [hct, hcm], fun _ _ _ _ => rfl, by omega⟩ ?_
  rintro j s2 hj ⟨hdf2, g0, g4, g5, hjn, cur, k, hH2, hcl, g3, htk, hrest, hki⟩
  have hHb2 : s2.H b = some (.row T o 1 (cur.map sD)) := by rw [hH2]; exact Heap.upd_same _ _ _
  have hcml : (List.map sD cur).length = cur.length := List.length_map _
  by_cases hjl : j + 1 < n2
  case neg =>
    have q6 : (((j + 1 : Nat) : Int) < (n2 : Int)) = False := eq_false (by omega)
    have hfull : i + 1 + j + 1 = l.length := by omega
    rw [hfull, List.take_length] at htk
    have hkl : k = (cmpS l).length := by rw [← htk, List.length_take]; omega
    have q7 : ((k : Int) ≤ (l.length : Int)) = True := eq_true (by omega)
    have hxk : (k : Int).toNat = k := Int.toNat_natCast _
    have h0k : (0 : Int) ≤ (k : Int) := Int.natCast_nonneg _
    have hkc : k ≤ cur.length := by omega
    (have fs := And.intro g0 (And.intro g3 (And.intro g4 (And.intro g5 (And.intro @i64.eq_1 (And.intro q6 (And.intro q7 (And.intro hxk (And.intro h0k (And.intro hHb2 (And.intro hcml (And.intro hkc @Nat.sub_zero))))))))))); (repeat (first | refine hGx _ ?_ | refine hNx _ ?_ | refine W_skip ?_ | refine W_exit ?_ | refine W_ret ?_ | refine W_label ?_ | refine W_scope ?_ | refine W_block ?_ | refine W_seq ?_ | ((first | refine tS fun N hNx => ?_ | refine WL_gE rfl rfl (by kernel_rfl) (by kernel_rfl) fun G hGx => ?_ | refine vcOpsS_sound (by kernel_rfl) ?_ | refine W_ifE fun A B hAx hBx => ?_); refine evT ?_; (first | refine hGx _ ?_ | refine hNx _ ?_ | refine hAx ?_ | refine hBx ?_ | skip)))); (try clear fs))
    (first | (show Q .ret _) | (show Q .normal _) | skip); refine hret _ _ (by first | exact .inr rfl | exact .inl rfl) (by first | rfl | assumption | (simp only [put_df, withH_df]; assumption)) ?_; have fs := hdf2; refine evT ?_; clear fs
    have hcl2 : (cmpS l).length ≤ cur.length := by have := cmpS_len l; omega
    exact ⟨_, Heap.le_refl _, by rw [hkl], cmpS l, by rw [hH2, upd_twice, ← List.map_take, htk], List.take_length⟩
  have q6 : (((j + 1 : Nat) : Int) < (n2 : Int)) = True := eq_true (by omega)
  have hm1 : i + 1 + j + 1 < l.length := by omega
  have hg1 : (cur.map sD)[i + 1 + (j + 1)]? = some [.val (.string cur[i + 1 + j + 1])] := get_strs (show i + 1 + j + 1 < cur.length by omega)
  have hg0 := get_strs (show i + 1 + j < cur.length by omega)
  rw [hrest _ hm1 (by omega) (by omega)] at hg1
  rw [hrest _ (show i + 1 + j < l.length by omega) (by omega) (by omega)] at hg0
  have hxj : ((j + 1 : Nat) : Int).toNat = j + 1 := Int.toNat_natCast _
  have hxj0 : (j : Int).toNat = j := Int.toNat_natCast _
  have h0j : (0 : Int) ≤ ((j + 1 : Nat) : Int) := Int.natCast_nonneg _
  have h0j0 : (0 : Int) ≤ (j : Int) := Int.natCast_nonneg _
  have q7 : ((j : Int) < (n2 : Int)) = True := eq_true (by omega)
  have hj2 : j < n2 := by omega
  have w3 : IntKind.i64.wrap (((j + 1 : Nat) : Int) - 1) = (j : Int) := by rw [wrap_i64_of (by omega)]; omega
  have w4 : IntKind.i64.wrap (((j + 1 : Nat) : Int) + 1) = ((j + 1 + 1 : Nat) : Int) := by rw [wrap_i64_of (by omega)]; omega
  have w5 : IntKind.i64.wrap ((k : Int) + 1) = ((k + 1 : Nat) : Int) := by rw [wrap_i64_of (by omega)]; omega
  have hct2 := cmpS_take (l := l) (i := i + 1 + j) hm1
  obtain ⟨x, hxe⟩ : ∃ x, x = l[i + 1 + j] := ⟨_, rfl⟩
  obtain ⟨y, hye⟩ : ∃ y, y = l[i + 1 + j + 1] := ⟨_, rfl⟩
  rw [← hye] at hg1
  rw [← hxe] at hg0
  rw [← hxe, ← hye] at hct2
  by_cases he2 : x = y
  · have q8 : (y.toList = x.toList) = True := eq_true (by rw [he2])
    rw [if_pos he2] at hct2
    (have fs := And.intro g0 (And.intro g3 (And.intro g4 (And.intro g5 (And.intro @i64.eq_1 q6)))); (repeat (first | refine hGx _ ?_ | refine hNx _ ?_ | refine W_skip ?_ | refine W_exit ?_ | refine W_ret ?_ | refine W_label ?_ | refine W_scope ?_ | refine W_block ?_ | refine W_seq ?_ | ((first | refine tS fun N hNx => ?_ | refine WL_gE rfl rfl (by kernel_rfl) (by kernel_rfl) fun G hGx => ?_ | refine vcOpsS_sound (by kernel_rfl) ?_ | refine W_ifE fun A B hAx hBx => ?_); refine evT ?_; (first | refine hGx _ ?_ | refine hNx _ ?_ | refine hAx ?_ | refine hBx ?_ | skip)))); (try clear fs))
    refine W_drawE (fun _ _ _ _ => False) (by kernel_rfl) (by kernel_rfl) (by kernel_rfl) fun N hNx => ?_; (have fs := And.intro g4 (And.intro g5 (And.intro @i64.eq_1 (And.intro hHb2 (And.intro hg1 (And.intro hg0 (And.intro hxj (And.intro hxj0 (And.intro h0j (And.intro h0j0 (And.intro hjl (And.intro hj2 (And.intro hcml (And.intro q6 (And.intro q7 (And.intro q8 w3))))))))))))))); (repeat ((first | refine vcD_g rfl rfl fun G hGx => ?_ | refine vcDS_to ?_); refine evD ?_; (first | refine hGx _ ?_ | refine hNx _ ?_ | skip))); (try clear fs))
    (have fs := And.intro g5 (And.intro @i64.eq_1 w4); (repeat (first | refine hGx _ ?_ | refine hNx _ ?_ | refine W_skip ?_ | refine W_exit ?_ | refine W_ret ?_ | refine W_label ?_ | refine W_scope ?_ | refine W_block ?_ | refine W_seq ?_ | ((first | refine tS fun N hNx => ?_ | refine WL_gE rfl rfl (by kernel_rfl) (by kernel_rfl) fun G hGx => ?_ | refine vcOpsS_sound (by kernel_rfl) ?_ | refine W_ifE fun A B hAx hBx => ?_); refine evT ?_; (first | refine hGx _ ?_ | refine hNx _ ?_ | refine hAx ?_ | refine hBx ?_ | skip)))); (try clear fs))
    exact ⟨by show j < n2 - 1; omega, hdf2, g0, g4, rfl, by omega, cur, k, hH2, hcl, g3, by rw [show i + 1 + (j + 1) + 1 = i + 1 + j + 1 + 1 by omega, hct2]; exact htk, fun m h h' hm => hrest m h h' (by omega), by omega⟩
  · have q8 : (y.toList = x.toList) = False := eq_false fun e => he2 (toL_inj.1 e).symm
    rw [if_neg he2] at hct2
    have hxk : (k : Int).toNat = k := Int.toNat_natCast _
    have h0k : (0 : Int) ≤ (k : Int) := Int.natCast_nonneg _
    have hkl : k < l.length := by omega
    have hkl2 : ((k : Int) < (l.length : Int)) = True := eq_true (by omega)
    have hkc : k < cur.length := by omega
    have hgk := get_strs hkc
    (have fs := And.intro g0 (And.intro g3 (And.intro g4 (And.intro g5 (And.intro @i64.eq_1 q6)))); (repeat (first | refine hGx _ ?_ | refine hNx _ ?_ | refine W_skip ?_ | refine W_exit ?_ | refine W_ret ?_ | refine W_label ?_ | refine W_scope ?_ | refine W_block ?_ | refine W_seq ?_ | ((first | refine tS fun N hNx => ?_ | refine WL_gE rfl rfl (by kernel_rfl) (by kernel_rfl) fun G hGx => ?_ | refine vcOpsS_sound (by kernel_rfl) ?_ | refine W_ifE fun A B hAx hBx => ?_); refine evT ?_; (first | refine hGx _ ?_ | refine hNx _ ?_ | refine hAx ?_ | refine hBx ?_ | skip)))); (try clear fs))
    refine W_drawE (fun _ _ _ _ => False) (by kernel_rfl) (by kernel_rfl) (by kernel_rfl) fun N hNx => ?_; (have fs := And.intro g4 (And.intro g5 (And.intro @i64.eq_1 (And.intro hHb2 (And.intro hg1 (And.intro hg0 (And.intro hxj (And.intro hxj0 (And.intro h0j (And.intro h0j0 (And.intro hjl (And.intro hj2 (And.intro hcml (And.intro q6 (And.intro q7 (And.intro q8 w3))))))))))))))); (repeat ((first | refine vcD_g rfl rfl fun G hGx => ?_ | refine vcDS_to ?_); refine evD ?_; (first | refine hGx _ ?_ | refine hNx _ ?_ | skip))); (try clear fs))
    (have fs := And.intro g0 (And.intro g3 (And.intro g4 (And.intro g5 (And.intro @i64.eq_1 (And.intro q6 (And.intro q7 (And.intro q8 (And.intro w4 (And.intro w5 (And.intro hHb2 (And.intro hg1 (And.intro hg0 (And.intro hgk (And.intro hxj (And.intro h0j (And.intro hxk (And.intro h0k (And.intro hkl (And.intro hkl2 (And.intro hkc (And.intro hjl hcml))))))))))))))))))))); (repeat (first | refine hGx _ ?_ | refine hNx _ ?_ | refine W_skip ?_ | refine W_exit ?_ | refine W_ret ?_ | refine W_label ?_ | refine W_scope ?_ | refine W_block ?_ | refine W_seq ?_ | ((first | refine tS fun N hNx => ?_ | refine WL_gE rfl rfl (by kernel_rfl) (by kernel_rfl) fun G hGx => ?_ | refine vcOpsS_sound (by kernel_rfl) ?_ | refine W_ifE fun A B hAx hBx => ?_); refine evT ?_; (first | refine hGx _ ?_ | refine hNx _ ?_ | refine hAx ?_ | refine hBx ?_ | skip)))); (try clear fs))
    have hset : (List.map sD cur).set k [.val (.string y)] = (cur.set k y).map sD := by rw [List.map_set]; rfl
    refine ⟨by show j < n2 - 1; omega, hdf2, g0, g4, rfl, by omega, cur.set k y, k + 1, by show s2.H.upd b _ = _; rw [hH2, upd_twice, ← hset], by rw [List.length_set]; exact hcl, rfl, ?_, fun m h h' hm => ?_, by omega⟩
    · rw [show i + 1 + (j + 1) + 1 = i + 1 + j + 1 + 1 by omega, hct2, List.take_succ_eq_append_getElem (by rw [List.length_set]; exact hkc), List.take_set_of_le (Nat.le_refl _), htk, List.getElem_set_self]
    · rw [List.getElem_set_ne (by omega)]
      exact hrest m h (by rw [List.length_set] at h'; exact h') (by omega)
theorem less_tb {a b : ByteArray} (h : a.toList < b.toList) : Op.bytesLess a.toList b.toList = true := by rw [Go.Proofs.bytesLess_eq]; exact decide_eq_true h
theorem less_fb {a b : ByteArray} (h : ¬ a.toList < b.toList) : Op.bytesLess a.toList b.toList = false := by rw [Go.Proofs.bytesLess_eq]; exact decide_eq_false h
theorem insT_skip {s : ByteArray} {l : List ByteArray} {i : Nat} (h : i < l.length) (hn : ¬ (s.toList < l[i].toList ∨ s = l[i])) : insT s (l.drop i) = l[i] :: insT s (l.drop (i + 1)) := by
  rw [List.drop_eq_getElem_cons h, insT, if_neg fun e => hn (.inr e), if_neg fun e => hn (.inl e)]
theorem insT_lt {s : ByteArray} {l : List ByteArray} {i : Nat} (h : i < l.length) (hn : s.toList < l[i].toList) : insT s (l.drop i) = s :: l[i] :: l.drop (i + 1) := by
  rw [List.drop_eq_getElem_cons h, insT, if_neg (fun e => by rw [e] at hn; exact List.lt_irrefl _ hn), if_pos hn]
theorem insT_same {s : ByteArray} {l : List ByteArray} {i : Nat} (h : i < l.length) (hn : s = l[i]) : insT s (l.drop i) = l[i] :: l.drop (i + 1) := by
  rw [List.drop_eq_getElem_cons h, insT, if_pos hn]
/-- What has been put together: done or not yet. -/
def InsI (l : List ByteArray) (s : ByteArray) (i : Nat) (dn : Bool) (out : List ByteArray) : Prop := (dn = true → out ++ l.drop i = insT s l) ∧ (dn = false → out ++ insT s (l.drop i) = insT s l) ∧ out.length ≤ i + dn.toNat
set_option maxHeartbeats 1000000 in
theorem ins_N (l : List ByteArray) (s : ByteArray) (H : Heap) (hl : l.length ≤ 1000000000) : Does Tryd.prog 31 [.seq 1 (l.map sD), strD s] H fun d H' => d = .seq 1 ((insT s l).map sD) ∧ H = H' := by
  refine Does.frz (K := fun d => d = .seq 1 ((insT s l).map sD)) ?_
  have hll : (List.map sD l).length = l.length := List.length_map _
  refine does_of _ _ Tryd.func31 rfl rfl Tryd.ntmps31 Tryd.results31 (by simp only [List.length_cons, List.length_nil]; omega) fun w0 Q hret => ?_
  (have fs := And.intro @i64.eq_1 @strD.eq_1; (repeat (first | refine hGx _ ?_ | refine hNx _ ?_ | refine W_skip ?_ | refine W_exit ?_ | refine W_ret ?_ | refine W_label ?_ | refine W_scope ?_ | refine W_block ?_ | refine W_seq ?_ | ((first | refine tS fun N hNx => ?_ | refine WL_gE rfl rfl (by kernel_rfl) (by kernel_rfl) fun G hGx => ?_ | refine vcOpsS_sound (by kernel_rfl) ?_ | refine W_ifE fun A B hAx hBx => ?_); refine evT ?_; (first | refine hGx _ ?_ | refine hNx _ ?_ | refine hAx ?_ | refine hBx ?_ | skip)))); (try clear fs))
  refine W_loopN l.length (fun i st => st.df = [] ∧ st.fr 0 = .seq 1 (l.map sD) ∧ st.fr 1 = .val (.string s) ∧ st.fr 7 = i64 i ∧ H.le st.H ∧ ∃ dn out ob, st.fr 6 = .val (.bool dn) ∧ Gl H 9 1 (out.map sD) (st.fr 5) st.H ob ∧ InsI l s i dn out) ⟨rfl, rfl, rfl, rfl, Heap.le_refl _, false, [], none, rfl, Gl.nil _ _ _ _, by simp, by simp, by simp⟩ ?_
  rintro i st hi ⟨hdf, f0, f1, f7, hle, dn, out, ob, f6, hg, hi1, hi2, hi3⟩
  have hol : out.length ≤ i + 1 := by have := Bool.toNat_le dn; omega
  have hx : (i : Int).toNat = i := Int.toNat_natCast _
  have h00 : (0 : Int) ≤ (i : Int) := Int.natCast_nonneg _
  by_cases hil : i < l.length
  case neg =>
    have p1 : ((i : Int) < (l.length : Int)) = False := eq_false (by omega)
    have hd : l.drop i = [] := List.drop_eq_nil_of_le (by omega)
    rw [hd] at hi1 hi2
    cases dn with
    | true =>
      have hres := hi1 rfl
      rw [List.append_nil] at hres
      (have fs := And.intro f0 (And.intro f6 (And.intro f7 (And.intro @i64.eq_1 (And.intro hll p1)))); (repeat (first | refine hGx _ ?_ | refine hNx _ ?_ | refine W_skip ?_ | refine W_exit ?_ | refine W_ret ?_ | refine W_label ?_ | refine W_scope ?_ | refine W_block ?_ | refine W_seq ?_ | ((first | refine tS fun N hNx => ?_ | refine WL_gE rfl rfl (by kernel_rfl) (by kernel_rfl) fun G hGx => ?_ | refine vcOpsS_sound (by kernel_rfl) ?_ | refine W_ifE fun A B hAx hBx => ?_); refine evT ?_; (first | refine hGx _ ?_ | refine hNx _ ?_ | refine hAx ?_ | refine hBx ?_ | skip)))); (try clear fs))
      (first | (show Q .ret _) | (show Q .normal _) | skip); refine hret _ _ (by first | exact .inr rfl | exact .inl rfl) (by first | rfl | assumption | (simp only [put_df, withH_df]; assumption)) ?_; have fs := hdf; refine evT ?_; clear fs
      exact ⟨_, Heap.le_refl _, hle, _, frz_gl hle hg, by rw [hres]⟩
    | false =>
      have hres := hi2 rfl
      (have fs := And.intro f0 (And.intro f1 (And.intro f6 (And.intro f7 (And.intro @i64.eq_1 (And.intro hll p1))))); (repeat (first | refine hGx _ ?_ | refine hNx _ ?_ | refine W_skip ?_ | refine W_exit ?_ | refine W_ret ?_ | refine W_label ?_ | refine W_scope ?_ | refine W_block ?_ | refine W_seq ?_ | ((first | refine tS fun N hNx => ?_ | refine WL_gE rfl rfl (by kernel_rfl) (by kernel_rfl) fun G hGx => ?_ | refine vcOpsS_sound (by kernel_rfl) ?_ | refine W_ifE fun A B hAx hBx => ?_); refine evT ?_; (first | refine hGx _ ?_ | refine hNx _ ?_ | refine hAx ?_ | refine hBx ?_ | skip)))); (try clear fs))
      refine apV_grow (e := 9) ty24 rfl ty24 rfl ty9 rfl (by decide) hle hg (new := [sD s]) (by exact ⟨rfl, rfl⟩) (by rw [List.length_map]; show (_ + 1) * 16 ≤ _; omega) fun d H6 ob6 hg6 hle6 _ => ?_
      rw [show [sD s] = [s].map sD from rfl, ← List.map_append] at hg6
      (have fs := @i64.eq_1; (repeat (first | refine hGx _ ?_ | refine hNx _ ?_ | refine W_skip ?_ | refine W_exit ?_ | refine W_ret ?_ | refine W_label ?_ | refine W_scope ?_ | refine W_block ?_ | refine W_seq ?_ | ((first | refine tS fun N hNx => ?_ | refine WL_gE rfl rfl (by kernel_rfl) (by kernel_rfl) fun G hGx => ?_ | refine vcOpsS_sound (by kernel_rfl) ?_ | refine W_ifE fun A B hAx hBx => ?_); refine evT ?_; (first | refine hGx _ ?_ | refine hNx _ ?_ | refine hAx ?_ | refine hBx ?_ | skip)))); (try clear fs))
      (first | (show Q .ret _) | (show Q .normal _) | skip); refine hret _ _ (by first | exact .inr rfl | exact .inl rfl) (by first | rfl | assumption | (simp only [put_df, withH_df]; assumption)) ?_; have fs := hdf; refine evT ?_; clear fs
      exact ⟨_, Heap.le_refl _, hle6, _, frz_gl hle6 hg6, by rw [← hres]; rfl⟩
  have p1 : ((i : Int) < (l.length : Int)) = True := eq_true (by omega)
  have hgi := get_strs hil
  have w3 : IntKind.i64.wrap ((i : Int) + 1) = ((i + 1 : Nat) : Int) := by rw [wrap_i64_of (by omega)]; omega
  have hsk := insT_skip (s := s) hil
  have hlt := insT_lt (s := s) hil
  have hsm := insT_same (s := s) hil
  have hdr : l.drop i = l[i] :: l.drop (i + 1) := List.drop_eq_getElem_cons hil
  obtain ⟨x, hxe⟩ : ∃ x, x = l[i] := ⟨_, rfl⟩
  rw [← hxe] at hgi hsk hlt hsm hdr
  cases dn with
  | true =>
    (have fs := And.intro f0 (And.intro f6 (And.intro f7 (And.intro @i64.eq_1 (And.intro hll (And.intro p1 (And.intro hgi (And.intro hx (And.intro h00 hil)))))))); (repeat (first | refine hGx _ ?_ | refine hNx _ ?_ | refine W_skip ?_ | refine W_exit ?_ | refine W_ret ?_ | refine W_label ?_ | refine W_scope ?_ | refine W_block ?_ | refine W_seq ?_ | ((first | refine tS fun N hNx => ?_ | refine WL_gE rfl rfl (by kernel_rfl) (by kernel_rfl) fun G hGx => ?_ | refine vcOpsS_sound (by kernel_rfl) ?_ | refine W_ifE fun A B hAx hBx => ?_); refine evT ?_; (first | refine hGx _ ?_ | refine hNx _ ?_ | refine hAx ?_ | refine hBx ?_ | skip)))); (try clear fs))
    refine apV_grow (e := 9) ty24 rfl ty24 rfl ty9 rfl (by decide) hle hg (new := [sD x]) (by exact ⟨rfl, rfl⟩) (by rw [List.length_map]; show (_ + 1) * 16 ≤ _; omega) fun d H6 ob6 hg6 hle6 _ => ?_
    rw [show [sD x] = [x].map sD from rfl, ← List.map_append] at hg6
    (have fs := And.intro f7 (And.intro @i64.eq_1 w3); (repeat (first | refine hGx _ ?_ | refine hNx _ ?_ | refine W_skip ?_ | refine W_exit ?_ | refine W_ret ?_ | refine W_label ?_ | refine W_scope ?_ | refine W_block ?_ | refine W_seq ?_ | ((first | refine tS fun N hNx => ?_ | refine WL_gE rfl rfl (by kernel_rfl) (by kernel_rfl) fun G hGx => ?_ | refine vcOpsS_sound (by kernel_rfl) ?_ | refine W_ifE fun A B hAx hBx => ?_); refine evT ?_; (first | refine hGx _ ?_ | refine hNx _ ?_ | refine hAx ?_ | refine hBx ?_ | skip)))); (try clear fs))
    exact ⟨hil, hdf, f0, f1, rfl, hle6, true, out ++ [x], ob6, f6, hg6, (fun _ => by rw [List.append_assoc, ← hi1 rfl, hdr]; rfl), (fun h => by cases h), by rw [List.length_append, List.length_singleton]; omega⟩
  | false =>
    have hi2 := hi2 rfl
    by_cases h1 : s.toList < x.toList
    · have e1 := less_tb h1
      rw [hlt h1] at hi2
      have e2 : (s.toList = x.toList) = False := eq_false fun e => by rw [e] at h1; exact List.lt_irrefl _ h1
      (have fs := And.intro f0 (And.intro f1 (And.intro f6 (And.intro f7 (And.intro @i64.eq_1 (And.intro hll (And.intro p1 (And.intro hgi (And.intro hx (And.intro h00 (And.intro hil (And.intro e1 (And.intro e2 (And.intro @Bool.or_false @Bool.true_or))))))))))))); (repeat (first | refine hGx _ ?_ | refine hNx _ ?_ | refine W_skip ?_ | refine W_exit ?_ | refine W_ret ?_ | refine W_label ?_ | refine W_scope ?_ | refine W_block ?_ | refine W_seq ?_ | ((first | refine tS fun N hNx => ?_ | refine WL_gE rfl rfl (by kernel_rfl) (by kernel_rfl) fun G hGx => ?_ | refine vcOpsS_sound (by kernel_rfl) ?_ | refine W_ifE fun A B hAx hBx => ?_); refine evT ?_; (first | refine hGx _ ?_ | refine hNx _ ?_ | refine hAx ?_ | refine hBx ?_ | skip)))); (try clear fs))
      refine apV_grow (e := 9) ty24 rfl ty24 rfl ty9 rfl (by decide) hle hg (new := [sD s]) (by exact ⟨rfl, rfl⟩) (by rw [List.length_map]; show (_ + 1) * 16 ≤ _; omega) fun d H6 ob6 hg6 hle6 _ => ?_
      rw [show [sD s] = [s].map sD from rfl, ← List.map_append] at hg6
      (have fs := And.intro f0 (And.intro f7 (And.intro @i64.eq_1 (And.intro hll (And.intro hgi (And.intro hx (And.intro h00 hil)))))); (repeat (first | refine hGx _ ?_ | refine hNx _ ?_ | refine W_skip ?_ | refine W_exit ?_ | refine W_ret ?_ | refine W_label ?_ | refine W_scope ?_ | refine W_block ?_ | refine W_seq ?_ | ((first | refine tS fun N hNx => ?_ | refine WL_gE rfl rfl (by kernel_rfl) (by kernel_rfl) fun G hGx => ?_ | refine vcOpsS_sound (by kernel_rfl) ?_ | refine W_ifE fun A B hAx hBx => ?_); refine evT ?_; (first | refine hGx _ ?_ | refine hNx _ ?_ | refine hAx ?_ | refine hBx ?_ | skip)))); (try clear fs))
      refine apV_grow (e := 9) ty24 rfl ty24 rfl ty9 rfl (by decide) hle6 hg6 (new := [sD x]) (by exact ⟨rfl, rfl⟩) (by rw [List.length_map, List.length_append]; show (_ + 1 + 1) * 16 ≤ _; omega) fun d H7 ob7 hg7 hle7 _ => ?_
      rw [show [sD x] = [x].map sD from rfl, ← List.map_append] at hg7
      (have fs := And.intro f7 (And.intro @i64.eq_1 w3); (repeat (first | refine hGx _ ?_ | refine hNx _ ?_ | refine W_skip ?_ | refine W_exit ?_ | refine W_ret ?_ | refine W_label ?_ | refine W_scope ?_ | refine W_block ?_ | refine W_seq ?_ | ((first | refine tS fun N hNx => ?_ | refine WL_gE rfl rfl (by kernel_rfl) (by kernel_rfl) fun G hGx => ?_ | refine vcOpsS_sound (by kernel_rfl) ?_ | refine W_ifE fun A B hAx hBx => ?_); refine evT ?_; (first | refine hGx _ ?_ | refine hNx _ ?_ | refine hAx ?_ | refine hBx ?_ | skip)))); (try clear fs))
      exact ⟨hil, hdf, f0, f1, rfl, hle7, true, out ++ [s] ++ [x], ob7, rfl, hg7, (fun _ => by rw [← hi2]; simp), (fun h => by cases h), by rw [List.length_append, List.length_append, List.length_singleton, List.length_singleton]; simp at hi3 ⊢; omega⟩
    · have e1 := less_fb h1
      by_cases h2 : s = x
      · have e2 : (s.toList = x.toList) = True := eq_true (by rw [h2])
        rw [hsm h2] at hi2
        (have fs := And.intro f0 (And.intro f1 (And.intro f6 (And.intro f7 (And.intro @i64.eq_1 (And.intro hll (And.intro p1 (And.intro hgi (And.intro hx (And.intro h00 (And.intro hil (And.intro e1 (And.intro e2 @Bool.false_or)))))))))))); (repeat (first | refine hGx _ ?_ | refine hNx _ ?_ | refine W_skip ?_ | refine W_exit ?_ | refine W_ret ?_ | refine W_label ?_ | refine W_scope ?_ | refine W_block ?_ | refine W_seq ?_ | ((first | refine tS fun N hNx => ?_ | refine WL_gE rfl rfl (by kernel_rfl) (by kernel_rfl) fun G hGx => ?_ | refine vcOpsS_sound (by kernel_rfl) ?_ | refine W_ifE fun A B hAx hBx => ?_); refine evT ?_; (first | refine hGx _ ?_ | refine hNx _ ?_ | refine hAx ?_ | refine hBx ?_ | skip)))); (try clear fs))
        refine apV_grow (e := 9) ty24 rfl ty24 rfl ty9 rfl (by decide) hle hg (new := [sD x]) (by exact ⟨rfl, rfl⟩) (by rw [List.length_map]; show (_ + 1) * 16 ≤ _; omega) fun d H6 ob6 hg6 hle6 _ => ?_
        rw [show [sD x] = [x].map sD from rfl, ← List.map_append] at hg6
        (have fs := And.intro f7 (And.intro @i64.eq_1 w3); (repeat (first | refine hGx _ ?_ | refine hNx _ ?_ | refine W_skip ?_ | refine W_exit ?_ | refine W_ret ?_ | refine W_label ?_ | refine W_scope ?_ | refine W_block ?_ | refine W_seq ?_ | ((first | refine tS fun N hNx => ?_ | refine WL_gE rfl rfl (by kernel_rfl) (by kernel_rfl) fun G hGx => ?_ | refine vcOpsS_sound (by kernel_rfl) ?_ | refine W_ifE fun A B hAx hBx => ?_); refine evT ?_; (first | refine hGx _ ?_ | refine hNx _ ?_ | refine hAx ?_ | refine hBx ?_ | skip)))); (try clear fs))
        exact ⟨hil, hdf, f0, f1, rfl, hle6, true, out ++ [x], ob6, rfl, hg6, (fun _ => by rw [← hi2]; simp), (fun h => by cases h), by rw [List.length_append, List.length_singleton]; simp at hi3 ⊢; omega⟩
      · have e2 : (s.toList = x.toList) = False := eq_false fun e => h2 (toL_inj.1 e)
        rw [hsk fun h => h.elim h1 h2] at hi2
        (have fs := And.intro f0 (And.intro f1 (And.intro f6 (And.intro f7 (And.intro @i64.eq_1 (And.intro hll (And.intro p1 (And.intro hgi (And.intro hx (And.intro h00 (And.intro hil (And.intro e1 (And.intro e2 @Bool.false_or)))))))))))); (repeat (first | refine hGx _ ?_ | refine hNx _ ?_ | refine W_skip ?_ | refine W_exit ?_ | refine W_ret ?_ | refine W_label ?_ | refine W_scope ?_ | refine W_block ?_ | refine W_seq ?_ | ((first | refine tS fun N hNx => ?_ | refine WL_gE rfl rfl (by kernel_rfl) (by kernel_rfl) fun G hGx => ?_ | refine vcOpsS_sound (by kernel_rfl) ?_ | refine W_ifE fun A B hAx hBx => ?_); refine evT ?_; (first | refine hGx _ ?_ | refine hNx _ ?_ | refine hAx ?_ | refine hBx ?_ | skip)))); (try clear fs))
        refine apV_grow (e := 9) ty24 rfl ty24 rfl ty9 rfl (by decide) hle hg (new := [sD x]) (by exact ⟨rfl, rfl⟩) (by rw [List.length_map]; show (_ + 1) * 16 ≤ _; omega) fun d H6 ob6 hg6 hle6 _ => ?_
        rw [show [sD x] = [x].map sD from rfl, ← List.map_append] at hg6
        (have fs := And.intro f7 (And.intro @i64.eq_1 w3); (repeat (first | refine hGx _ ?_ | refine hNx _ ?_ | refine W_skip ?_ | refine W_exit ?_ | refine W_ret ?_ | refine W_label ?_ | refine W_scope ?_ | refine W_block ?_ | refine W_seq ?_ | ((first | refine tS fun N hNx => ?_ | refine WL_gE rfl rfl (by kernel_rfl) (by kernel_rfl) fun G hGx => ?_ | refine vcOpsS_sound (by kernel_rfl) ?_ | refine W_ifE fun A B hAx hBx => ?_); refine evT ?_; (first | refine hGx _ ?_ | refine hNx _ ?_ | refine hAx ?_ | refine hBx ?_ | skip)))); (try clear fs))
        exact ⟨hil, hdf, f0, f1, rfl, hle6, false, out ++ [x], ob6, f6, hg6, (fun h => by cases h), (fun _ => by rw [← hi2]; simp), by rw [List.length_append, List.length_singleton]; simp at hi3 ⊢; omega⟩
end Go.Proofs.YtiakpcnglihnbaaDoor
