/- Lemmas and contracts of functions, several texts in one: I0 RW I1. -/
import Derived.Test.YtgfhgeelfaalmaaGreatDoorProg
import Derived.Lib.Strings
import Derived.Lib.Bytealg
import Derived.Lib.Walk
import Derived.Laws.Externs
import Derived.WalkKit
import Derived.Test.YtgfhgeelfaalmaaGreatDoorK05
import Derived.Test.YtgfhgeelfaalmaaGreatDoorK08
namespace Go.Proofs.YtgfhgeelfaalmaaGreatDoor
set_option linter.unusedVariables false
set_option maxRecDepth 100000 in
theorem ib_c (s : ByteArray) (c : Int) (w : World) :
    Calls Tryz.prog 95 #[.string s, .int .u8 c] w fun e w' => e = .returned (.int .i64 (firstIdx s c.toNat.toUInt8)) ∧ w = w' := by
  go_enter Tryz.func95, Tryz.ntmps95
  go_wp2
  rw [run_callFunc_extern Tryz.func118 (by kernel_rfl) (by kernel_rfl) (by kernel_rfl) (e := Extern.BytealgIndexByte.indexByte) (by kernel_rfl), run_indexByte_string]
  go_wp2
  go_ret
  exact ⟨rfl, rfl⟩
end Go.Proofs.YtgfhgeelfaalmaaGreatDoor
namespace Go.Proofs.YtgfhgeelfaalmaaGreatDoor
open Go.RowKit
set_option linter.unusedVariables false
set_option linter.unusedSimpArgs false
theorem FrzL.len {H H' : Heap} : ∀ {ds es : List D}, FrzL H H' ds es → ds.length = es.length
  | [], [], _ => rfl
  | d :: ds, e :: es, h => by rw [List.length_cons, List.length_cons, FrzL.len h.2]
  | [], _ :: _, h => h.elim
  | _ :: _, [], h => h.elim
theorem FrzL.at {H H' : Heap} {w : World} (hH : HOk w H') {b : Nat} : ∀ {ds es : List D} {o : Nat}, FrzL H H' ds es → cellsAt w H'.others b o ds → cellsAt w H.others b o es
  | [], [], _, _, h => by simp only [cellsAt] at h ⊢
  | d :: ds, e :: es, o, hv, h => by
    simp only [cellsAt] at h ⊢
    obtain ⟨⟨u, h1, h2, h3⟩, h4⟩ := h
    exact ⟨⟨u, h1, h2, hv.1 w u hH h3⟩, FrzL.at hH hv.2 h4⟩
  | [], _ :: _, _, hv, _ => hv.elim
  | _ :: _, [], _, hv, _ => hv.elim
def FrzR (H H' : Heap) : List (List D) → List (List D) → Prop
  | [], [] => True
  | d :: ds, e :: es => FrzL H H' d e ∧ FrzR H H' ds es
  | _, _ => False
theorem FrzR.len {H H' : Heap} : ∀ {ds es : List (List D)}, FrzR H H' ds es → ds.length = es.length
  | [], [], _ => rfl
  | d :: ds, e :: es, h => by rw [List.length_cons, List.length_cons, FrzR.len h.2]
  | [], _ :: _, h => h.elim
  | _ :: _, [], h => h.elim
theorem FrzR.at {H H' : Heap} {w : World} (hH : HOk w H') {b sz : Nat} : ∀ {ds es : List (List D)} {o : Nat}, FrzR H H' ds es → rowsAt w H'.others b sz o ds → rowsAt w H.others b sz o es
  | [], [], _, _, h => by simp only [rowsAt] at h ⊢
  | d :: ds, e :: es, o, hv, h => by
    simp only [rowsAt] at h ⊢
    exact ⟨hv.1.len ▸ h.1, hv.1.at hH h.2.1, FrzR.at hH hv.2 h.2.2⟩
  | [], _ :: _, _, hv, _ => hv.elim
  | _ :: _, [], _, hv, _ => hv.elim
theorem upd_twice (H : Heap) (b : Nat) (x y : HObj) : (H.upd b x).upd b y = H.upd b y := by
  funext c
  by_cases e : c = b
  · rw [e, Heap.upd_same, Heap.upd_same]
  · rw [Heap.upd_ne e, Heap.upd_ne e, Heap.upd_ne e]
set_option maxRecDepth 100000
theorem does_valH {P : Program} {f : FuncId} {us : List Value} {v : Value} {H : Heap} (he : Entr P f) (h : ∀ w, Calls P f us.toArray w fun e w' => e = .returned v ∧ w = w') : Does P f (us.map .val) H fun d H' => d = .val v ∧ H = H' :=
  And.intro he fun w vs hvs hH _ => by
    have : vs = us := by
      clear h
      induction us generalizing vs with
      | nil => simpa only [List.map_nil, valsAll] using hvs
      | cons u us ih =>
        simp only [List.map_cons, valsAll, D.is] at hvs
        obtain ⟨_, us', rfl, rfl, h2⟩ := hvs
        rw [ih us' h2]
    subst this
    refine (h w).mono ?_
    rintro e w' ⟨rfl, rfl⟩
    exact ⟨v, .val v, H, rfl, is_mk _, hH, Ev.refl _ _, rfl, rfl⟩
def u8D8 (c : UInt8) : D := .val (.int .u8 (c.toNat : Int))
theorem ixb0_N (s : ByteArray) (c : Int) (H : Heap) : Does Tryz.prog 95 [.val (.string s), .val (.int .u8 c)] H fun d H' => d = i64 (firstIdx s c.toNat.toUInt8) ∧ H = H' :=
  does_valH (us := [.string s, .int .u8 c]) (ent_of Tryz.func95 rfl rfl) fun w => ib_c s c w
theorem ixb_N (s : ByteArray) (c : Int) (H : Heap) : Does Tryz.prog 72 [.val (.string s), .val (.int .u8 c)] H fun d H' => d = i64 (firstIdx s c.toNat.toUInt8) ∧ H = H' := by
  refine does_of _ _ Tryz.func72 rfl rfl Tryz.ntmps72 Tryz.results72 (by simp only [List.length_cons, List.length_nil]; omega) fun w0 g0 Q hret => ?_
  refine tq @i64.eq_1 ?_; intro Nx hNx Gx hGx
  refine (ixb0_N s c _).mono ?_
  rintro d _ ⟨rfl, rfl⟩
  refine tq @i64.eq_1 ?_; intro Nx hNx Gx hGx
  refine rt hret @i64.eq_1 ?_
  exact ⟨_, Heap.le_refl _, rfl⟩
def setD (p : UInt8 → Bool) : List D := (List.range 256).map fun k => .val (.bool (p (UInt8.ofNat k)))
theorem setD_len (p : UInt8 → Bool) : (setD p).length = 256 := by unfold setD; rw [List.length_map, List.length_range]
theorem setD_get (p : UInt8 → Bool) {k : Nat} (h : k < 256) : (setD p)[k]? = some (.val (.bool (p (UInt8.ofNat k)))) := by
  unfold setD; rw [List.getElem?_map, List.getElem?_range h]; rfl
theorem setD_drop (p : UInt8 → Bool) (c : UInt8) : (setD p).drop c.toNat = .val (.bool (p c)) :: (setD p).drop (c.toNat + 1) := by
  have h : c.toNat < 256 := c.toNat_lt
  rw [List.drop_eq_getElem_cons (by rw [setD_len]; exact h)]
  have e := setD_get p h
  rw [List.getElem?_eq_getElem (by rw [setD_len]; exact h), UInt8.ofNat_toNat] at e
  rw [Option.some.inj e]
theorem setD_set (p : UInt8 → Bool) (c : UInt8) : (setD p).set c.toNat (.val (.bool true)) = setD fun x => p x || x == c := by
  apply List.ext_getElem?
  intro k
  by_cases h : k < 256
  · rw [setD_get _ h, List.getElem?_set, setD_get _ h]
    by_cases e : c.toNat = k
    · subst e
      rw [if_pos rfl, if_pos (by rw [setD_len]; exact h), UInt8.ofNat_toNat]; simp
    · rw [if_neg e]
      have : (UInt8.ofNat k == c) = false := by
        rw [beq_eq_false_iff_ne]
        intro e2
        apply e
        rw [← e2, UInt8.toNat_ofNat', Nat.mod_eq_of_lt h]
      rw [this, Bool.or_false]
  · rw [List.getElem?_eq_none (by rw [List.length_set, setD_len]; omega), List.getElem?_eq_none (by rw [setD_len]; omega)]
theorem setD_put (p : UInt8 → Bool) (c : UInt8) : (setD p).take c.toNat ++ [.val (.bool true)] ++ (setD p).drop (c.toNat + 1) = setD fun x => p x || x == c := by
  rw [← setD_set, List.set_eq_take_append_cons_drop, if_pos (by rw [setD_len]; exact c.toNat_lt), List.append_assoc]; rfl
theorem contains_N (p : UInt8 → Bool) (c : UInt8) (H : Heap) : Does Tryz.prog 119 [.rp (setD p), u8D8 c] H fun d H' => d = .val (.bool (p c)) ∧ H = H' := by
  have hc : ((c.toNat : Nat) : Int).toNat = c.toNat := Int.toNat_natCast _
  have h0 : (0 : Int) ≤ ((c.toNat : Nat) : Int) := Int.natCast_nonneg _
  have h1 : ((c.toNat : Nat) : Int) < 256 := by have := c.toNat_lt; omega
  have hd := setD_drop p c
  refine does_of _ _ Tryz.func119 rfl rfl Tryz.ntmps119 Tryz.results119 (by simp only [List.length_cons, List.length_nil]; omega) fun w0 g0 Q hret => ?_
  refine tq (cj7 @i64.eq_1 @u8D8.eq_1 hc h0 h1 hd @Nat.mul_one) ?_; intro Nx hNx Gx hGx
  refine rt hret @i64.eq_1 ?_
  exact ⟨_, Heap.le_refl _, rfl⟩
theorem ext_drop1 (l : List UInt8) (n : Nat) (h : (bstr l).size = n) : (bstr l).extract 1 n = bstr (l.drop 1) := by
  apply ByteArray.ext
  rw [ByteArray.data_extract]
  subst h
  apply Array.ext'
  rw [Array.toList_extract, bstr_toList, bstr_toList, bstr_size, List.extract, List.take_of_length_le (by rw [List.length_drop]; exact Nat.le_refl _)]
theorem ext_take1 (l : List UInt8) (n : Nat) : (bstr l).extract 0 n = bstr (l.take n) := by
  apply ByteArray.ext
  rw [ByteArray.data_extract]
  apply Array.ext'
  rw [Array.toList_extract, bstr_toList, bstr_toList]
  simp [List.extract]
set_option maxHeartbeats 1000000 in
theorem mkSet_N (cs : List UInt8) (H : Heap) (hc : ∀ c ∈ cs, c.toNat < 128) (hl : cs.length < 1000000) : Does Tryz.prog 98 [.val (.string (bstr cs))] H fun d H' => d = .tup [.agg (setD fun c => cs.contains c), .val (.bool true)] ∧ H = H' := by
  have hsz := bstr_size cs
  have hap : ∀ l : List D, l ++ [] = l := List.append_nil
  refine does_of _ _ Tryz.func98 rfl rfl Tryz.ntmps98 Tryz.results98 (by simp only [List.length_cons, List.length_nil]; omega) fun w0 g0 Q hret => ?_
  refine tq @i64.eq_1 ?_; intro Nx hNx Gx hGx
  intro c1 hc1
  refine hNx _ ?_
  refine tq @i64.eq_1 ?_; intro Nx hNx Gx hGx
  refine W_loopN cs.length (fun i s => s.df = [] ∧ s.fr 0 = .val (.string (bstr cs)) ∧ s.fr 2 = .ep c1 0 256 0 0 ∧ s.fr 4 = i64 i ∧ s.H = H.upd c1 (.row 146 0 256 [setD fun c => (cs.take i).contains c])) ⟨rfl, rfl, rfl, rfl, ?_⟩ ?_
  · rfl
  rintro i s hi ⟨hdf, f0, f2, f4, hH⟩
  have hx : (i : Int).toNat = i := Int.toNat_natCast _
  have h00 : (0 : Int) ≤ (i : Int) := Int.natCast_nonneg _
  by_cases hil : i < cs.length
  case neg =>
    have p1 : ((i : Int) < (cs.length : Int)) = False := eq_false (by omega)
    rw [List.take_of_length_le (by omega)] at hH
    have z1 : s.H c1 = some (.row 146 0 256 [setD fun c => cs.contains c]) := by rw [hH]; exact Heap.upd_same _ _ _
    have hln := setD_len fun c => cs.contains c
    have hdr : List.drop 256 (setD fun c => cs.contains c) = [] := List.drop_of_length_le (by rw [setD_len]; exact Nat.le_refl _)
    refine tq (cj10 f0 f2 f4 @i64.eq_1 p1 hsz z1 hln hdr hap) ?_; intro Nx hNx Gx hGx
    refine rt hret (cj2 f2 hln) ?_
    refine ⟨H, ?_, rfl⟩
    rw [hH]
    exact Heap.le_put (Heap.le_put (Heap.le_refl _) hc1) hc1
  have hil' : (i : Int) < (cs.length : Int) := by omega
  have p1 : ((i : Int) < (cs.length : Int)) = True := eq_true hil'
  have w3 : IntKind.i64.wrap ((i : Int) + 1) = ((i + 1 : Nat) : Int) := by rw [wrap_i64_of (by omega)]; omega
  have hg : cs[i]? = some cs[i] := List.getElem?_eq_getElem hil
  obtain ⟨c, hce⟩ : ∃ c, c = cs[i] := ⟨_, rfl⟩
  have hc128 := hc cs[i] (List.getElem_mem hil)
  rw [← hce] at hg hc128
  have p2 : ((c.toNat : Int) ≥ 128) = False := eq_false (by omega)
  have hcx : ((c.toNat : Nat) : Int).toNat = c.toNat := Int.toNat_natCast _
  have hc0 : (0 : Int) ≤ ((c.toNat : Nat) : Int) := Int.natCast_nonneg _
  have hc1' : ((c.toNat : Nat) : Int) < 256 := by omega
  have z1 : s.H c1 = some (.row 146 0 256 [setD fun c => (cs.take i).contains c]) := by rw [hH]; exact Heap.upd_same _ _ _
  have hln := setD_len fun c => (cs.take i).contains c
  refine tq (cj18 f0 f2 f4 @i64.eq_1 p1 p2 hsz hg hx h00 hil' z1 hln hcx hc0 hc1' @Nat.mul_one w3) ?_; intro Nx hNx Gx hGx
  refine ⟨by omega, ?_⟩
  (first | refine hGx _ ?_ | refine hNx _ ?_ | skip)
  refine tq (cj5 f0 f2 f4 @i64.eq_1 w3) ?_; intro Nx hNx Gx hGx
  refine ⟨hil, hdf, f0, f2, rfl, ?_⟩
  show s.H.upd c1 _ = _
  rw [setD_put, hH, upd_twice, List.take_succ_eq_append_getElem hil]
  refine congrArg (fun p => H.upd c1 (.row 146 0 256 [setD p])) (funext fun x => ?_)
  rw [List.contains_append, hce]
  simp
  rfl
def TrR (p : UInt8 → Bool) (l : List UInt8) (k : Nat) : Prop := k ≤ l.length ∧ (∀ c ∈ l.drop k, p c = true) ∧ (0 < k → ∀ c, l[k - 1]? = some c → p c = false)
theorem trimR_N (p : UInt8 → Bool) (l : List UInt8) (H : Heap) (hl : l.length ≤ 140737488351232) : Does Tryz.prog 100 [.val (.string (bstr l)), .rp (setD p)] H fun d H' => (∃ k, d = .val (.string (bstr (l.take k))) ∧ TrR p l k) ∧ H = H' := by
  refine does_of _ _ Tryz.func100 rfl rfl Tryz.ntmps100 Tryz.results100 (by simp only [List.length_cons, List.length_nil]; omega) fun w0 g0 Q hret => ?_
  refine tq @i64.eq_1 ?_; intro Nx hNx Gx hGx
  refine W_loopN l.length (fun i s => s.df = [] ∧ s.fr 0 = .val (.string (bstr (l.take (l.length - i)))) ∧ s.fr 1 = .rp (setD p) ∧ s.H = H ∧ ∀ c ∈ l.drop (l.length - i), p c = true) ⟨rfl, by rw [Nat.sub_zero, List.take_length]; rfl, rfl, rfl, by rw [Nat.sub_zero, List.drop_length]; intro c hc; cases hc⟩ ?_
  rintro i s hi ⟨hdf, f0, f1, hH, hp⟩
  obtain ⟨k, hk⟩ : ∃ k, k = l.length - i := ⟨_, rfl⟩
  rw [← hk] at f0 hp
  have hsz : (bstr (l.take k)).size = k := by rw [bstr_size, List.length_take]; omega
  by_cases hk0 : 0 < k
  case neg =>
    have p1 : ((k : Int) > 0) = False := eq_false (by omega)
    refine tq (cj5 f0 f1 @i64.eq_1 hsz p1) ?_; intro Nx hNx Gx hGx
    refine rt hret f0 ?_
    exact ⟨_, Heap.le_refl _, ⟨⟨k, rfl, by omega, hp, fun h => absurd h hk0⟩, hH.symm⟩⟩
  have p1 : ((k : Int) > 0) = True := eq_true (by omega)
  have w3 : IntKind.i64.wrap ((k : Int) - 1) = ((k - 1 : Nat) : Int) := by rw [wrap_i64_of (by omega)]; omega
  have hx : ((k - 1 : Nat) : Int).toNat = k - 1 := Int.toNat_natCast _
  have h00 : (0 : Int) ≤ ((k - 1 : Nat) : Int) := Int.natCast_nonneg _
  have hkl : k - 1 < l.length := by omega
  have hg : (l.take k)[k - 1]? = some l[k - 1] := by rw [List.getElem?_take_of_lt (by omega), List.getElem?_eq_getElem hkl]
  have hg2 : l[k - 1]? = some l[k - 1] := List.getElem?_eq_getElem hkl
  obtain ⟨c, hc⟩ : ∃ c, c = l[k - 1] := ⟨_, rfl⟩
  rw [← hc] at hg hg2
  refine tq (cj9 f0 f1 @i64.eq_1 hsz p1 w3 hg hx h00) ?_; intro Nx hNx Gx hGx
  refine (contains_N p c _).mono ?_
  rintro d _ ⟨rfl, rfl⟩
  cases hpc : p c
  · refine tq (cj2 f0 @i64.eq_1) ?_; intro Nx hNx Gx hGx
    refine rt hret f0 ?_
    exact ⟨_, Heap.le_refl _, ⟨⟨k, rfl, by omega, hp, fun _ c' hc' => by rw [hg2] at hc'; injection hc' with hc'; rw [← hc']; exact hpc⟩, hH.symm⟩⟩
  · have he := ext_take1 (l.take k) (k - 1)
    rw [List.take_take, Nat.min_eq_left (by omega)] at he
    have h01 : (0 : Int) ≤ ((k - 1 : Nat) : Int) := h00
    have h02 : ((k - 1 : Nat) : Int) ≤ (k : Int) := by omega
    refine tq (cj8 f0 @i64.eq_1 hsz w3 hx h01 h02 he) ?_; intro Nx hNx Gx hGx
    have hil : i < l.length := by omega
    refine ⟨hil, hdf, ?_, f1, hH, fun c' hc' => ?_⟩
    · rw [show l.length - (i + 1) = k - 1 by omega]; rfl
    · rw [show l.length - (i + 1) = k - 1 by omega, List.drop_eq_getElem_cons hkl, show k - 1 + 1 = k by omega] at hc'
      rcases List.mem_cons.1 hc' with h | h
      · rw [h, ← hc]; exact hpc
      · exact hp c' h
def TrL (p : UInt8 → Bool) (l : List UInt8) (k : Nat) : Prop := k ≤ l.length ∧ (∀ c ∈ l.take k, p c = true) ∧ ∀ c, l[k]? = some c → p c = false
theorem trimL_N (p : UInt8 → Bool) (l : List UInt8) (H : Heap) (hl : l.length ≤ 140737488351232) : Does Tryz.prog 99 [.val (.string (bstr l)), .rp (setD p)] H fun d H' => (∃ k, d = .val (.string (bstr (l.drop k))) ∧ TrL p l k) ∧ H = H' := by
  refine does_of _ _ Tryz.func99 rfl rfl Tryz.ntmps99 Tryz.results99 (by simp only [List.length_cons, List.length_nil]; omega) fun w0 g0 Q hret => ?_
  refine tq @i64.eq_1 ?_; intro Nx hNx Gx hGx
  refine W_loopN l.length (fun i s => s.df = [] ∧ s.fr 0 = .val (.string (bstr (l.drop i))) ∧ s.fr 1 = .rp (setD p) ∧ s.H = H ∧ ∀ c ∈ l.take i, p c = true) ⟨rfl, rfl, rfl, rfl, by intro c hc; cases hc⟩ ?_
  rintro i s hi ⟨hdf, f0, f1, hH, hp⟩
  have hsz : (bstr (l.drop i)).size = l.length - i := by rw [bstr_size, List.length_drop]
  by_cases hil : i < l.length
  case neg =>
    have p1 : (((l.length - i : Nat) : Int) > 0) = False := eq_false (by omega)
    refine tq (cj5 f0 f1 @i64.eq_1 hsz p1) ?_; intro Nx hNx Gx hGx
    refine rt hret f0 ?_
    exact ⟨_, Heap.le_refl _, ⟨⟨i, rfl, by omega, hp, fun c hc => by rw [List.getElem?_eq_none (by omega)] at hc; cases hc⟩, hH.symm⟩⟩
  have p1 : (((l.length - i : Nat) : Int) > 0) = True := eq_true (by omega)
  have hg2 : l[i]? = some l[i] := List.getElem?_eq_getElem hil
  have hg : (l.drop i)[0]? = some l[i] := by rw [List.getElem?_drop]; exact hg2
  obtain ⟨c, hc⟩ : ∃ c, c = l[i] := ⟨_, rfl⟩
  rw [← hc] at hg hg2
  have h00 : (0 : Int) ≤ 0 := Int.le_refl _
  refine tq (cj7 f0 f1 @i64.eq_1 hsz p1 hg h00) ?_; intro Nx hNx Gx hGx
  refine (contains_N p c _).mono ?_
  rintro d _ ⟨rfl, rfl⟩
  cases hpc : p c
  · refine tq (cj2 f0 @i64.eq_1) ?_; intro Nx hNx Gx hGx
    refine rt hret f0 ?_
    exact ⟨_, Heap.le_refl _, ⟨⟨i, rfl, by omega, hp, fun c' hc' => by rw [hg2] at hc'; injection hc' with hc'; rw [← hc']; exact hpc⟩, hH.symm⟩⟩
  · have he := ext_drop1 (l.drop i) _ hsz
    rw [List.drop_drop] at he
    have h01 : (0 : Int) ≤ 1 := by decide
    have h02 : (1 : Int) ≤ ((l.length - i : Nat) : Int) := by omega
    have hx1 : (1 : Int).toNat = 1 := rfl
    have hx2 : ((l.length - i : Nat) : Int).toNat = l.length - i := Int.toNat_natCast _
    refine tq (cj8 f0 @i64.eq_1 hsz hx1 hx2 h01 h02 he) ?_; intro Nx hNx Gx hGx
    refine ⟨hil, hdf, rfl, f1, hH, fun c' hc' => ?_⟩
    rw [List.take_succ_eq_append_getElem hil] at hc'
    rcases List.mem_append.1 hc' with h | h
    · exact hp c' h
    · rw [List.mem_singleton.1 h, ← hc]; exact hpc
end Go.Proofs.YtgfhgeelfaalmaaGreatDoor
