/- Lemmas and contracts of functions, several texts in one: PS. -/
import Derived.Shelf.Sort.Plain
import Derived.Shelf.Slices.In.SortNone
import Derived.Test.YtdbeimlancnncaaGYC
/- slices.Sort of an own row: the kit's contract in the logic's words. (posS, posS_ok: as the kit's laying command tells them for this program.) -/
namespace Go.Proofs.Ytdbeimlancnncaa
open Go.RowKit Go.Sort
set_option linter.unusedVariables false
set_option linter.unusedSimpArgs false
/-- Where the parts of the sort stand here. -/
def posS : Go.Shelf.Ren where
  f := fun x => match x with
    | 189 => 31
    | 125 => 34
    | 257 => 33
    | 128 => 44
    | 129 => 45
    | 294 => 35
    | 295 => 36
    | 296 => 37
    | 297 => 38
    | 298 => 39
    | 299 => 40
    | 216 => 41
    | 300 => 42
    | 301 => 43
    | 328 => 46
    | 329 => 47
    | 330 => 48
    | 331 => 49
    | 332 => 50
    | 215 => 51
    | 343 => 52
    | n => n
  t := fun x => match x with
    | 28 => 43
    | 3 => 3
    | 46 => 83
    | 0 => 0
    | 51 => 93
    | 53 => 95
    | 4 => 4
    | 183 => 86
    | 182 => 85
    | 131 => 36
    | 5 => 5
    | 9 => 9
    | 218 => 96
    | 222 => 100
    | 228 => 103
    | 229 => 104
    | n => n
  g := fun n => n

theorem posS_ok : Lays.n189 Try.prog posS where
  mixed := by kernel_rfl
  f125 := Try.func34.trans (congrArg some (by kernel_rfl))
  f128 := Try.func44.trans (congrArg some (by kernel_rfl))
  f129 := Try.func45.trans (congrArg some (by kernel_rfl))
  f189 := Try.func31.trans (congrArg some (by kernel_rfl))
  f215 := Try.func51.trans (congrArg some (by kernel_rfl))
  f216 := Try.func41.trans (congrArg some (by kernel_rfl))
  f257 := Try.func33.trans (congrArg some (by kernel_rfl))
  f294 := Try.func35.trans (congrArg some (by kernel_rfl))
  f295 := Try.func36.trans (congrArg some (by kernel_rfl))
  f296 := Try.func37.trans (congrArg some (by kernel_rfl))
  f297 := Try.func38.trans (congrArg some (by kernel_rfl))
  f298 := Try.func39.trans (congrArg some (by kernel_rfl))
  f299 := Try.func40.trans (congrArg some (by kernel_rfl))
  f300 := Try.func42.trans (congrArg some (by kernel_rfl))
  f301 := Try.func43.trans (congrArg some (by kernel_rfl))
  f328 := Try.func46.trans (congrArg some (by kernel_rfl))
  f329 := Try.func47.trans (congrArg some (by kernel_rfl))
  f330 := Try.func48.trans (congrArg some (by kernel_rfl))
  f331 := Try.func49.trans (congrArg some (by kernel_rfl))
  f332 := Try.func50.trans (congrArg some (by kernel_rfl))
  f343 := Try.func52.trans (congrArg some (by kernel_rfl))
  t0 := Try.underlying0
  a0 := Try.isAgg0
  z0 := Try.sizeOf0
  v0 := Try.zeroValue0
  t3 := Try.underlying3
  a3 := Try.isAgg3
  z3 := Try.sizeOf3
  v3 := Try.zeroValue3
  t4 := Try.underlying4
  a4 := Try.isAgg4
  z4 := Try.sizeOf4
  v4 := Try.zeroValue4
  t5 := Try.underlying5
  a5 := Try.isAgg5
  z5 := Try.sizeOf5
  v5 := Try.zeroValue5
  t9 := Try.underlying9
  a9 := Try.isAgg9
  z9 := Try.sizeOf9
  v9 := Try.zeroValue9
  t28 := Try.underlying43
  a28 := Try.isAgg43
  z28 := Try.sizeOf43
  v28 := Try.zeroValue43
  t46 := Try.underlying83
  a46 := Try.isAgg83
  z46 := Try.sizeOf83
  v46 := Try.zeroValue83
  t51 := Try.underlying93
  a51 := Try.isAgg93
  z51 := Try.sizeOf93
  v51 := Try.zeroValue93
  t53 := Try.underlying95
  a53 := Try.isAgg95
  z53 := Try.sizeOf95
  v53 := Try.zeroValue95
  t131 := Try.underlying36
  a131 := Try.isAgg36
  z131 := Try.sizeOf36
  v131 := Try.zeroValue36
  t182 := Try.underlying85
  a182 := Try.isAgg85
  z182 := Try.sizeOf85
  v182 := Try.zeroValue85
  t183 := Try.underlying86
  a183 := Try.isAgg86
  z183 := Try.sizeOf86
  v183 := Try.zeroValue86
  t218 := Try.underlying96
  a218 := Try.isAgg96
  z218 := Try.sizeOf96
  v218 := Try.zeroValue96
  t222 := Try.underlying100
  a222 := Try.isAgg100
  z222 := Try.sizeOf100
  v222 := Try.zeroValue100
  t228 := Try.underlying103
  a228 := Try.isAgg103
  z228 := Try.sizeOf103
  v228 := Try.zeroValue103
  t229 := Try.underlying104
  a229 := Try.isAgg104
  z229 := Try.sizeOf104
  v229 := Try.zeroValue104

/-- The numbers in order. -/
def sortI (l : List Int) : List Int := l.mergeSort fun x y => decide (x ≤ y)
theorem sortI_length (l : List Int) : (sortI l).length = l.length := List.length_mergeSort _
theorem sortI_get {l : List Int} {j : Nat} (h : j < l.length) : (sortI l).toArray[j]! = (sortI l)[j]'(by rw [sortI_length]; exact h) := by
  have h' : j < (sortI l).length := by rw [sortI_length]; exact h
  rw [getElem!_pos (sortI l).toArray j (by simpa using h')]
  simp
set_option maxHeartbeats 1000000 in
theorem sort_own {H : Heap} {b o : Nat} {T : TypeId} {l : List Int} (hb : H b = some (.row T o 1 (l.map iD))) (hl : l.length < 4611686018427387904) :
    Does Try.prog 31 [.os b o 1 0 l.length] H fun d H' => d = .tup [] ∧ H' = H.upd b (.row T o 1 ((sortI l).map iD)) :=
  And.intro (ent_of Try.func31 rfl rfl) fun w vs hvs hH => by
    simp only [valsAll] at hvs
    obtain ⟨u, _, rfl, h1, rfl⟩ := hvs
    simp only [D.is] at h1
    obtain ⟨A, c, rfl, hnc, h1⟩ := h1
    obtain ⟨cs, fr, hcs, hfr, hsz, hrows⟩ := hH _ _ hb
    rw [List.length_map, Nat.mul_one] at hsz
    have hlt := hH.lt hb
    have hcell : ∀ j (hj : j < l.length), cs[o + j]? = some (.int .i64 l[j]) := fun j hj => by
      have := (rowsAt_get hrows j [.val (.int .i64 l[j])] (by rw [List.getElem?_map, List.getElem?_eq_getElem hj]; rfl)).2
      simp only [cellsAt, D.is] at this
      obtain ⟨⟨v, hv, _, rfl⟩, _⟩ := this
      rw [cell_of_row _ _ _ _ _ _ hcs, Nat.mul_one] at hv
      exact hv
    by_cases hl0 : l.length = 0
    · have hln : l = [] := List.eq_nil_of_length_eq_zero hl0
      subst hln
      refine (Any.slices_Sort_int_none posS_ok A c w).mono ?_
      rintro e w' ⟨rfl, rfl⟩
      have hs : sortI [] = [] := List.eq_nil_of_length_eq_zero (sortI_length [])
      refine ⟨_, _, H, rfl, (by simp only [D.is]; exact ⟨[], rfl, by simp only [valsAll]⟩), hH, Ev.refl _ _, rfl, ?_⟩
      funext b'
      by_cases hbb : b' = b
      · subst hbb; rw [Heap.upd_same, hb, hs]
      · rw [Heap.upd_ne hbb]
    have hA : A = some ⟨b, o, none⟩ := by
      rcases h1 with h1 | h1
      · omega
      · rw [h1.1]; simp
    subst hA
    have hsl := sortI_length l
    have hholds : Holds (Value.int .i64) w b o l.toArray := fun j hj => by
      have hj' : j < l.length := by simpa using hj
      refine ⟨?_, ?_⟩
      · rw [cell_of_row _ _ _ _ _ _ hcs, hcell j hj', getElem!_pos l.toArray j hj]; simp
      · have := hfr.not (o + j) (by omega)
        simp only [World.frozen?, hcs]
        simp
        omega
    refine (Any.slices_Sort_int posS_ok b o c l w hholds hlt hl).mono ?_
    rintro e w' ⟨rfl, n, os, rfl⟩
    obtain ⟨ar, har⟩ : ∃ ar, ar = (sortI l).toArray := ⟨_, rfl⟩
    have hars : ar.size = l.length := by rw [har]; simpa using hsl
    rw [show (l.mergeSort fun x y => decide (x ≤ y)).toArray = ar from har.symm]
    have hwb : (grow (putRow (Value.int .i64) (Go.Sort.ahead w n) b o ar) os).heap[b]? = some (Obj.cells (putCells (Value.int .i64) o ar cs) T fr) := by
      rw [heap_grow_old _ _ (by rw [size_putRow]; exact hlt)]
      show (w.heap.modify b _)[b]? = _
      rw [Array.getElem?_modify, if_pos rfl, hcs]
      rfl
    have hwo : ∀ b', b' < w.heap.size → b' ≠ b → (grow (putRow (Value.int .i64) (Go.Sort.ahead w n) b o ar) os).heap[b']? = w.heap[b']? := fun b' h hne => by
      rw [heap_grow_old _ _ (by rw [size_putRow]; exact h)]
      show (w.heap.modify b _)[b']? = _
      rw [Array.getElem?_modify, if_neg (Ne.symm hne)]
    have hev : Ev H w (H.upd b (.row T o 1 ((sortI l).map iD))) (grow (putRow (Value.int .i64) (Go.Sort.ahead w n) b o ar) os) := by
      refine ⟨rfl, rfl, rfl, ?_, fun b' h1 h2 => ?_, fun b' cs' t' fr' h => ?_⟩
      · rw [size_grow, size_putRow]; exact Nat.le_add_right _ _
      · have hne : b' ≠ b := fun e => by rw [e, hb] at h2; cases h2
        exact ⟨hwo b' h1 hne, by rw [Heap.upd_ne hne]; exact h2⟩
      · by_cases hne : b' = b
        · subst hne
          rw [hcs] at h
          cases h
          exact ⟨_, _, hwb, by simp [putCells]⟩
        · exact ⟨cs', fr', by rw [hwo b' (Array.getElem?_eq_some_iff.1 h).1 hne]; exact h, rfl⟩
    refine ⟨_, _, _, rfl, (by simp only [D.is]; exact ⟨[], rfl, by simp only [valsAll]⟩), ?_, hev, rfl, rfl⟩
    intro b' y hy
    by_cases hne : b' = b
    · subst hne
      rw [Heap.upd_same] at hy
      injection hy with hy
      subst hy
      refine ⟨_, fr, hwb, ?_, ?_, rowsAt_of fun i el hi => ?_⟩
      · rw [show (putCells (Value.int .i64) o ar cs).size = cs.size by simp [putCells]]; exact hfr
      · rw [show (putCells (Value.int .i64) o ar cs).size = cs.size by simp [putCells], List.length_map, hsl]; omega
      · rw [List.getElem?_map] at hi
        have hil : i < l.length := by
          rcases Nat.lt_or_ge i (sortI l).length with h | h
          · omega
          · rw [List.getElem?_eq_none h] at hi; cases hi
        rw [List.getElem?_eq_getElem (by omega)] at hi
        injection hi with hi
        subst hi
        refine ⟨rfl, ?_⟩
        simp only [iD, i64, cellsAt, D.is]
        refine ⟨⟨_, ?_, rfl, rfl⟩, trivial⟩
        rw [cell_of_row _ _ _ _ _ _ hwb, Nat.mul_one]
        have h2 : o + i < cs.size := by omega
        have h3 := sortI_get hil
        rw [← har] at h3
        rw [getElem!_pos ar i (by omega)] at h3
        simp [putCells, h2, hars, hil]
        exact h3
    · rw [Heap.upd_ne hne] at hy
      exact hev.objAt (hwo b' (hH.lt hy) hne) (hH b' y hy)
/-- .. of a slice that is still nil. -/
theorem sort_nil (H : Heap) : Does Try.prog 31 [.val (.slice none 0 0)] H fun d H' => d = .tup [] ∧ H = H' :=
  And.intro (ent_of Try.func31 rfl rfl) fun w vs hvs hH => by
    simp only [valsAll] at hvs
    obtain ⟨u, _, rfl, h1, rfl⟩ := hvs
    simp only [D.is] at h1
    subst h1
    refine (Any.slices_Sort_int_none posS_ok none 0 w).mono ?_
    rintro e w' ⟨rfl, rfl⟩
    exact ⟨_, _, H, rfl, (by simp only [D.is]; exact ⟨[], rfl, by simp only [valsAll]⟩), hH, Ev.refl _ _, rfl, rfl⟩
end Go.Proofs.Ytdbeimlancnncaa
