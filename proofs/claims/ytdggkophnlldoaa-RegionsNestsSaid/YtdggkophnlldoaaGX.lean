/- Lemmas and contracts of functions, several texts in one: R6. -/
import Derived.Shelf.Sort.Plain
import Derived.Shelf.Slices.In.SortNone
import Derived.Test.YtdggkophnlldoaaGR
/- slices.Sort of an own row: the kit's contract in the logic's words. (posS, posS_ok: as the kit's laying command tells them for this program.) -/
namespace Go.Proofs.Ytdggkophnlldoaa
open Go.RowKit Go.Sort
set_option linter.unusedVariables false
set_option linter.unusedSimpArgs false
/-- Where the parts of the sort stand here. -/
def posS : Go.Shelf.Ren where
  f := fun x => match x with
    | 189 => 56
    | 125 => 66
    | 257 => 65
    | 128 => 78
    | 129 => 79
    | 294 => 69
    | 295 => 70
    | 296 => 71
    | 297 => 72
    | 298 => 73
    | 299 => 74
    | 216 => 75
    | 300 => 76
    | 301 => 77
    | 328 => 81
    | 329 => 82
    | 330 => 83
    | 331 => 84
    | 332 => 85
    | 215 => 68
    | 343 => 86
    | n => n
  t := fun x => match x with
    | 28 => 43
    | 3 => 3
    | 46 => 118
    | 0 => 0
    | 51 => 128
    | 53 => 130
    | 4 => 4
    | 183 => 122
    | 182 => 121
    | 131 => 36
    | 5 => 5
    | 9 => 9
    | 218 => 132
    | 222 => 136
    | 228 => 138
    | 229 => 139
    | n => n
  g := fun n => n

theorem posS_ok : Lays.n189 Try.prog posS where
  mixed := by kernel_rfl
  f125 := Try.func66.trans (congrArg some (by kernel_rfl))
  f128 := Try.func78.trans (congrArg some (by kernel_rfl))
  f129 := Try.func79.trans (congrArg some (by kernel_rfl))
  f189 := Try.func56.trans (congrArg some (by kernel_rfl))
  f215 := Try.func68.trans (congrArg some (by kernel_rfl))
  f216 := Try.func75.trans (congrArg some (by kernel_rfl))
  f257 := Try.func65.trans (congrArg some (by kernel_rfl))
  f294 := Try.func69.trans (congrArg some (by kernel_rfl))
  f295 := Try.func70.trans (congrArg some (by kernel_rfl))
  f296 := Try.func71.trans (congrArg some (by kernel_rfl))
  f297 := Try.func72.trans (congrArg some (by kernel_rfl))
  f298 := Try.func73.trans (congrArg some (by kernel_rfl))
  f299 := Try.func74.trans (congrArg some (by kernel_rfl))
  f300 := Try.func76.trans (congrArg some (by kernel_rfl))
  f301 := Try.func77.trans (congrArg some (by kernel_rfl))
  f328 := Try.func81.trans (congrArg some (by kernel_rfl))
  f329 := Try.func82.trans (congrArg some (by kernel_rfl))
  f330 := Try.func83.trans (congrArg some (by kernel_rfl))
  f331 := Try.func84.trans (congrArg some (by kernel_rfl))
  f332 := Try.func85.trans (congrArg some (by kernel_rfl))
  f343 := Try.func86.trans (congrArg some (by kernel_rfl))
  t0 := Try.underlying0
  a0 := Try.isAgg0
  z0 := Try.sizeOf0
  v0 := Try.zeroValue0
  t3 := Try.underlying3
  a3 := Try.isAgg3
  z3 := Try.sizeOf3
  v3 := Try.zeroValue3
  t4 := Try.underlying4
  a4 := Try.isAgg4
  z4 := Try.sizeOf4
  v4 := Try.zeroValue4
  t5 := Try.underlying5
  a5 := Try.isAgg5
  z5 := Try.sizeOf5
  v5 := Try.zeroValue5
  t9 := Try.underlying9
  a9 := Try.isAgg9
  z9 := Try.sizeOf9
  v9 := Try.zeroValue9
  t28 := Try.underlying43
  a28 := Try.isAgg43
  z28 := Try.sizeOf43
  v28 := Try.zeroValue43
  t46 := Try.underlying118
  a46 := Try.isAgg118
  z46 := Try.sizeOf118
  v46 := Try.zeroValue118
  t51 := Try.underlying128
  a51 := Try.isAgg128
  z51 := Try.sizeOf128
  v51 := Try.zeroValue128
  t53 := Try.underlying130
  a53 := Try.isAgg130
  z53 := Try.sizeOf130
  v53 := Try.zeroValue130
  t131 := Try.underlying36
  a131 := Try.isAgg36
  z131 := Try.sizeOf36
  v131 := Try.zeroValue36
  t182 := Try.underlying121
  a182 := Try.isAgg121
  z182 := Try.sizeOf121
  v182 := Try.zeroValue121
  t183 := Try.underlying122
  a183 := Try.isAgg122
  z183 := Try.sizeOf122
  v183 := Try.zeroValue122
  t218 := Try.underlying132
  a218 := Try.isAgg132
  z218 := Try.sizeOf132
  v218 := Try.zeroValue132
  t222 := Try.underlying136
  a222 := Try.isAgg136
  z222 := Try.sizeOf136
  v222 := Try.zeroValue136
  t228 := Try.underlying138
  a228 := Try.isAgg138
  z228 := Try.sizeOf138
  v228 := Try.zeroValue138
  t229 := Try.underlying139
  a229 := Try.isAgg139
  z229 := Try.sizeOf139
  v229 := Try.zeroValue139

/-- The numbers in order. -/
def sortI (l : List Int) : List Int := l.mergeSort fun x y => decide (x ≤ y)
theorem sortI_length (l : List Int) : (sortI l).length = l.length := List.length_mergeSort _
theorem sortI_get {l : List Int} {j : Nat} (h : j < l.length) : (sortI l).toArray[j]! = (sortI l)[j]'(by rw [sortI_length]; exact h) := by
  have h' : j < (sortI l).length := by rw [sortI_length]; exact h
  rw [getElem!_pos (sortI l).toArray j (by simpa using h')]
  simp
set_option maxHeartbeats 1000000 in
theorem sort_own {H : Heap} {b o : Nat} {T : TypeId} {l : List Int} (hb : H b = some (.row T o 1 (l.map iD))) (hl : l.length < 4611686018427387904) :
    Does Try.prog 56 [.os b o 1 0 l.length] H fun d H' => d = .tup [] ∧ H' = H.upd b (.row T o 1 ((sortI l).map iD)) :=
  And.intro (ent_of Try.func56 rfl rfl) fun w vs hvs hH => by
    simp only [valsAll] at hvs
    obtain ⟨u, _, rfl, h1, rfl⟩ := hvs
    simp only [D.is] at h1
    obtain ⟨A, c, rfl, hnc, h1⟩ := h1
    obtain ⟨cs, fr, hcs, hfr, hsz, hrows⟩ := hH _ _ hb
    rw [List.length_map, Nat.mul_one] at hsz
    have hlt := hH.lt hb
    have hcell : ∀ j (hj : j < l.length), cs[o + j]? = some (.int .i64 l[j]) := fun j hj => by
      have := (rowsAt_get hrows j [.val (.int .i64 l[j])] (by rw [List.getElem?_map, List.getElem?_eq_getElem hj]; rfl)).2
      simp only [cellsAt, D.is] at this
      obtain ⟨⟨v, hv, _, rfl⟩, _⟩ := this
      rw [cell_of_row _ _ _ _ _ _ hcs, Nat.mul_one] at hv
      exact hv
    by_cases hl0 : l.length = 0
    · have hln : l = [] := List.eq_nil_of_length_eq_zero hl0
      subst hln
      refine (Any.slices_Sort_int_none posS_ok A c w).mono ?_
      rintro e w' ⟨rfl, rfl⟩
      have hs : sortI [] = [] := List.eq_nil_of_length_eq_zero (sortI_length [])
      refine ⟨_, _, H, rfl, (by simp only [D.is]; exact ⟨[], rfl, by simp only [valsAll]⟩), hH, Ev.refl _ _, rfl, ?_⟩
      funext b'
      by_cases hbb : b' = b
      · subst hbb; rw [Heap.upd_same, hb, hs]
      · rw [Heap.upd_ne hbb]
    have hA : A = some ⟨b, o, none⟩ := by
      rcases h1 with h1 | h1
      · omega
      · rw [h1.1]; simp
    subst hA
    have hsl := sortI_length l
    have hholds : Holds (Value.int .i64) w b o l.toArray := fun j hj => by
      have hj' : j < l.length := by simpa using hj
      refine ⟨?_, ?_⟩
      · rw [cell_of_row _ _ _ _ _ _ hcs, hcell j hj', getElem!_pos l.toArray j hj]; simp
      · have := hfr.not (o + j) (by omega)
        simp only [World.frozen?, hcs]
        simp
        omega
    refine (Any.slices_Sort_int posS_ok b o c l w hholds hlt hl).mono ?_
    rintro e w' ⟨rfl, n, os, rfl⟩
    obtain ⟨ar, har⟩ : ∃ ar, ar = (sortI l).toArray := ⟨_, rfl⟩
    have hars : ar.size = l.length := by rw [har]; simpa using hsl
    rw [show (l.mergeSort fun x y => decide (x ≤ y)).toArray = ar from har.symm]
    have hwb : (grow (putRow (Value.int .i64) (Go.Sort.ahead w n) b o ar) os).heap[b]? = some (Obj.cells (putCells (Value.int .i64) o ar cs) T fr) := by
      rw [heap_grow_old _ _ (by rw [size_putRow]; exact hlt)]
      show (w.heap.modify b _)[b]? = _
      rw [Array.getElem?_modify, if_pos rfl, hcs]
      rfl
    have hwo : ∀ b', b' < w.heap.size → b' ≠ b → (grow (putRow (Value.int .i64) (Go.Sort.ahead w n) b o ar) os).heap[b']? = w.heap[b']? := fun b' h hne => by
      rw [heap_grow_old _ _ (by rw [size_putRow]; exact h)]
      show (w.heap.modify b _)[b']? = _
      rw [Array.getElem?_modify, if_neg (Ne.symm hne)]
    have hev : Ev H w (H.upd b (.row T o 1 ((sortI l).map iD))) (grow (putRow (Value.int .i64) (Go.Sort.ahead w n) b o ar) os) := by
      refine ⟨rfl, rfl, rfl, ?_, fun b' h1 h2 => ?_, fun b' cs' t' fr' h => ?_⟩
      · rw [size_grow, size_putRow]; exact Nat.le_add_right _ _
      · have hne : b' ≠ b := fun e => by rw [e, hb] at h2; cases h2
        exact ⟨hwo b' h1 hne, by rw [Heap.upd_ne hne]; exact h2⟩
      · by_cases hne : b' = b
        · subst hne
          rw [hcs] at h
          cases h
          exact ⟨_, _, hwb, by simp [putCells]⟩
        · exact ⟨cs', fr', by rw [hwo b' (Array.getElem?_eq_some_iff.1 h).1 hne]; exact h, rfl⟩
    refine ⟨_, _, _, rfl, (by simp only [D.is]; exact ⟨[], rfl, by simp only [valsAll]⟩), ?_, hev, rfl, rfl⟩
    intro b' y hy
    by_cases hne : b' = b
    · subst hne
      rw [Heap.upd_same] at hy
      injection hy with hy
      subst hy
      refine ⟨_, fr, hwb, ?_, ?_, rowsAt_of fun i el hi => ?_⟩
      · rw [show (putCells (Value.int .i64) o ar cs).size = cs.size by simp [putCells]]; exact hfr
      · rw [show (putCells (Value.int .i64) o ar cs).size = cs.size by simp [putCells], List.length_map, hsl]; omega
      · rw [List.getElem?_map] at hi
        have hil : i < l.length := by
          rcases Nat.lt_or_ge i (sortI l).length with h | h
          · omega
          · rw [List.getElem?_eq_none h] at hi; cases hi
        rw [List.getElem?_eq_getElem (by omega)] at hi
        injection hi with hi
        subst hi
        refine ⟨rfl, ?_⟩
        simp only [iD, i64, cellsAt, D.is]
        refine ⟨⟨_, ?_, rfl, rfl⟩, trivial⟩
        rw [cell_of_row _ _ _ _ _ _ hwb, Nat.mul_one]
        have h2 : o + i < cs.size := by omega
        have h3 := sortI_get hil
        rw [← har] at h3
        rw [getElem!_pos ar i (by omega)] at h3
        simp [putCells, h2, hars, hil]
        exact h3
    · rw [Heap.upd_ne hne] at hy
      exact hev.objAt (hwo b' (hH.lt hy) hne) (hH b' y hy)
/-- .. of a slice that is still nil. -/
theorem sort_nil (H : Heap) : Does Try.prog 56 [.val (.slice none 0 0)] H fun d H' => d = .tup [] ∧ H = H' :=
  And.intro (ent_of Try.func56 rfl rfl) fun w vs hvs hH => by
    simp only [valsAll] at hvs
    obtain ⟨u, _, rfl, h1, rfl⟩ := hvs
    simp only [D.is] at h1
    subst h1
    refine (Any.slices_Sort_int_none posS_ok none 0 w).mono ?_
    rintro e w' ⟨rfl, rfl⟩
    exact ⟨_, _, H, rfl, (by simp only [D.is]; exact ⟨[], rfl, by simp only [valsAll]⟩), hH, Ev.refl _ _, rfl, rfl⟩
end Go.Proofs.Ytdggkophnlldoaa
