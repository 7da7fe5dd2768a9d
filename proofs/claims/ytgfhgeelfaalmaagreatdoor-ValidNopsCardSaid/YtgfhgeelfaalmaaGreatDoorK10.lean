/- Lemmas and contracts of functions, several texts in one: I2 I3 IK. -/
import Derived.Test.YtgfhgeelfaalmaaGreatDoorK09
namespace Go.Proofs.YtgfhgeelfaalmaaGreatDoor
open Go.RowKit
set_option maxRecDepth 100000
set_option linter.unusedVariables false
set_option linter.unusedSimpArgs false
def digB (c : UInt8) : Bool := decide (48 ≤ c.toNat) && decide (c.toNat ≤ 57)
def letB (c : UInt8) : Bool := (decide (97 ≤ c.toNat) && decide (c.toNat ≤ 122)) || (decide (65 ≤ c.toNat) && decide (c.toNat ≤ 90)) || decide (c.toNat = 95)
def isIdL (l : List UInt8) : Bool := decide (1 ≤ l.length) && decide (l.length ≤ 255) && !digB (l.headD 0) && l.all fun c => letB c || digB c
def isId (s : ByteArray) : Bool := isIdL s.data.toList
def digS : List UInt8 := [48, 49, 50, 51, 52, 53, 54, 55, 56, 57]
def idS : List UInt8 := [95, 97, 98, 99, 100, 101, 102, 103, 104, 105, 106, 107, 108, 109, 110, 111, 112, 113, 114, 115, 116, 117, 118, 119, 120, 121, 122, 65, 66, 67, 68, 69, 70, 71, 72, 73, 74, 75, 76, 77, 78, 79, 80, 81, 82, 83, 84, 85, 86, 87, 88, 89, 90, 48, 49, 50, 51, 52, 53, 54, 55, 56, 57]
def all256 (f : UInt8 → Bool) : Bool := (List.range 256).all fun k => f (UInt8.ofNat k)
theorem all256_of {f : UInt8 → Bool} (h : all256 f = true) (c : UInt8) : f c = true := by
  have := List.all_eq_true.1 h c.toNat (List.mem_range.2 c.toNat_lt)
  rwa [UInt8.ofNat_toNat] at this
theorem digS_ix (c : UInt8) : decide (firstIdx (bstr digS) c < 0) = !digB c := by
  have h : all256 (fun c => decide (firstIdx (bstr digS) c < 0) == !digB c) = true := by decide +kernel
  simpa using all256_of h c
theorem idS_in (c : UInt8) : idS.contains c = (letB c || digB c) := by
  have h : all256 (fun c => idS.contains c == (letB c || digB c)) = true := by decide +kernel
  simpa using all256_of h c
theorem str0_toL : (⟨#[]⟩ : ByteArray).toList = [] := bstr_toL []
theorem trim_empty {p : UInt8 → Bool} {l : List UInt8} {k j : Nat} (hk : TrR p l k) (hj : TrL p (l.take k) j) : (l.take k).drop j = [] ↔ (l.all p) = true := by
  obtain ⟨k1, k2, k3⟩ := hk
  obtain ⟨j1, j2, j3⟩ := hj
  rw [List.length_take, Nat.min_eq_left k1] at j1
  rw [List.all_eq_true]
  constructor
  · intro h c hc
    have h1 : j = k := by
      have := congrArg List.length h
      rw [List.length_drop, List.length_take, Nat.min_eq_left k1] at this
      simp at this; omega
    rw [← List.take_append_drop k l] at hc
    rcases List.mem_append.1 hc with hc | hc
    · exact j2 c (by rw [h1, List.take_of_length_le (by rw [List.length_take]; omega)]; exact hc)
    · exact k2 c hc
  · intro h
    by_cases h0 : 0 < k
    · have hlt : k - 1 < l.length := by omega
      have := k3 h0 _ (List.getElem?_eq_getElem hlt)
      rw [h _ (List.getElem_mem hlt)] at this
      cases this
    · have : k = 0 := by omega
      subst this
      simp
theorem trimId_N (l : List UInt8) (H : Heap) (hl : l.length ≤ 140737488351232) : Does Tryz.prog 73 [.val (.string (bstr l)), .val (.string (bstr idS))] H fun d H' => (∃ m : List UInt8, d = .val (.string (bstr m)) ∧ (m = [] ↔ (l.all fun c => letB c || digB c) = true)) ∧ H = H' := by
  have hcs : (fun c => idS.contains c) = fun c => letB c || digB c := funext idS_in
  have hsz : (bstr idS).size = 63 := bstr_size _
  have q1 : ((bstr idS).toList = (⟨#[]⟩ : ByteArray).toList) = False := eq_false (by rw [bstr_toL, str0_toL]; decide)
  have q3 : ((63 : Int) = 1) = False := eq_false (by decide)
  by_cases h0 : l = []
  · have q2 : ((bstr l).toList = (⟨#[]⟩ : ByteArray).toList) = True := eq_true (by rw [bstr_toL, str0_toL]; exact h0)
    refine does_of _ _ Tryz.func73 rfl rfl Tryz.ntmps73 Tryz.results73 (by simp only [List.length_cons, List.length_nil]; omega) fun w0 g0 Q hret => ?_
    refine tq (cj3 @i64.eq_1 q1 q2) ?_; intro Nx hNx Gx hGx
    refine rt hret @i64.eq_1 ?_
    exact ⟨_, Heap.le_refl _, ⟨l, rfl, by subst h0; simp⟩, rfl⟩
  have q2 : ((bstr l).toList = (⟨#[]⟩ : ByteArray).toList) = False := eq_false (by rw [bstr_toL, str0_toL]; exact h0)
  refine does_of _ _ Tryz.func73 rfl rfl Tryz.ntmps73 Tryz.results73 (by simp only [List.length_cons, List.length_nil]; omega) fun w0 g0 Q hret => ?_
  refine tq (cj5 @i64.eq_1 q1 q2 q3 hsz) ?_; intro Nx hNx Gx hGx
  refine (mkSet_N idS _ (by decide) (by decide)).mono ?_
  rintro d _ ⟨rfl, rfl⟩
  rw [hcs]
  have hln := setD_len fun c => letB c || digB c
  refine tq (cj2 @i64.eq_1 hln) ?_; intro Nx hNx Gx hGx
  intro c1 hc1
  refine hNx _ ?_
  refine frz 5 hc1 ?_
  refine tq @i64.eq_1 ?_; intro Nx hNx Gx hGx
  refine (trimR_N _ l _ hl).mono ?_
  rintro d _ ⟨⟨k, rfl, hk⟩, rfl⟩
  refine tq @i64.eq_1 ?_; intro Nx hNx Gx hGx
  refine (trimL_N _ (l.take k) _ (by rw [List.length_take]; omega)).mono ?_
  rintro d _ ⟨⟨j, rfl, hj⟩, rfl⟩
  refine tq @i64.eq_1 ?_; intro Nx hNx Gx hGx
  refine rt hret @i64.eq_1 ?_
  exact ⟨_, Heap.le_refl _, ⟨_, rfl, trim_empty hk hj⟩, rfl⟩
theorem isIdL_eq {l : List UInt8} (c : UInt8) (t : List UInt8) (h : l = c :: t) (hl : l.length ≤ 255) (b : Bool) (m : List UInt8) (hm : m = [] ↔ (l.all fun c => letB c || digB c) = true) : isIdL l = (!digB c && decide (m = [])) := by
  unfold isIdL
  have h1 : decide (1 ≤ l.length) = true := by rw [h]; simp
  have h2 : decide (l.length ≤ 255) = true := by simp [hl]
  have h3 : l.headD 0 = c := by rw [h]; rfl
  rw [h1, h2, h3, Bool.true_and, Bool.true_and]
  congr 1
  cases e : l.all fun c => letB c || digB c
  · rw [eq_comm, decide_eq_false]; intro h; rw [hm.1 h] at e; cases e
  · rw [eq_comm, decide_eq_true (hm.2 e)]
theorem isid_L (l : List UInt8) (H : Heap) (hl : l.length ≤ 140737488351232) : Does Tryz.prog 49 [.val (.string (bstr l))] H fun d H' => d = .val (.bool (isIdL l)) ∧ H = H' := by
  have hsz : (bstr l).size = l.length := bstr_size _
  cases l with
  | nil =>
    have q2 : ((bstr []).toList = (⟨#[]⟩ : ByteArray).toList) = True := eq_true (by rw [bstr_toL, str0_toL])
    refine does_of _ _ Tryz.func49 rfl rfl Tryz.ntmps49 Tryz.results49 (by simp only [List.length_cons, List.length_nil]; omega) fun w0 g0 Q hret => ?_
    refine tq (cj2 @i64.eq_1 q2) ?_; intro Nx hNx Gx hGx
    refine rt hret @i64.eq_1 ?_
    exact ⟨_, Heap.le_refl _, rfl, rfl⟩
  | cons c t =>
    obtain ⟨l, hle⟩ : ∃ l, l = c :: t := ⟨_, rfl⟩
    rw [← hle] at hsz hl ⊢
    have q2 : ((bstr l).toList = (⟨#[]⟩ : ByteArray).toList) = False := eq_false (by rw [bstr_toL, str0_toL, hle]; intro h; cases h)
    by_cases h255 : l.length ≤ 255
    case neg =>
      have q3 : ((l.length : Int) ≤ 255) = False := eq_false (by omega)
      have e0 : isIdL l = false := by unfold isIdL; rw [decide_eq_false h255]; simp
      rw [e0]
      refine does_of _ _ Tryz.func49 rfl rfl Tryz.ntmps49 Tryz.results49 (by simp only [List.length_cons, List.length_nil]; omega) fun w0 g0 Q hret => ?_
      refine tq (cj4 @i64.eq_1 q2 hsz q3) ?_; intro Nx hNx Gx hGx
      refine rt hret @i64.eq_1 ?_
      exact ⟨_, Heap.le_refl _, rfl⟩
    have q3 : ((l.length : Int) ≤ 255) = True := eq_true (by omega)
    have hg : l[0]? = some c := by rw [hle]; rfl
    have h00 : (0 : Int) ≤ 0 := Int.le_refl _
    refine does_of _ _ Tryz.func49 rfl rfl Tryz.ntmps49 Tryz.results49 (by simp only [List.length_cons, List.length_nil]; omega) fun w0 g0 Q hret => ?_
    refine tq (cj6 @i64.eq_1 q2 hsz q3 hg h00) ?_; intro Nx hNx Gx hGx
    refine (ixb_N (bstr digS) (c.toNat : Int) _).mono ?_
    rintro d _ ⟨rfl, rfl⟩
    have hcc : ((c.toNat : Nat) : Int).toNat.toUInt8 = c := by rw [Int.toNat_natCast]; exact UInt8.ofNat_toNat
    rw [hcc]
    have hd := digS_ix c
    cases hdc : digB c
    · rw [hdc] at hd
      have q4 : (firstIdx (bstr digS) c < 0) = True := eq_true (of_decide_eq_true hd)
      refine tq (cj2 @i64.eq_1 q4) ?_; intro Nx hNx Gx hGx
      refine (trimId_N l _ hl).mono ?_
      rintro d _ ⟨⟨m, rfl, hm⟩, rfl⟩
      have he := isIdL_eq c t hle h255 true m hm
      rw [hdc] at he
      have q5 : ((bstr m).toList = (⟨#[]⟩ : ByteArray).toList) = (m = []) := by rw [bstr_toL, str0_toL]
      (first | refine hGx _ ?_ | refine hNx _ ?_ | skip)
      refine tq (cj2 @i64.eq_1 q5) ?_; intro Nx hNx Gx hGx
      refine rt hret @i64.eq_1 ?_
      exact ⟨_, Heap.le_refl _, by rw [he]; rfl, rfl⟩
    · rw [hdc] at hd
      have q4 : (firstIdx (bstr digS) c < 0) = False := eq_false (of_decide_eq_false hd)
      have e0 : isIdL l = false := by unfold isIdL; rw [show l.headD 0 = c by rw [hle]; rfl, hdc]; simp
      (first | refine hGx _ ?_ | refine hNx _ ?_ | skip)
      refine tq (cj2 @i64.eq_1 q4) ?_; intro Nx hNx Gx hGx
      refine rt hret @i64.eq_1 ?_
      exact ⟨_, Heap.le_refl _, by rw [e0], rfl⟩
theorem tfS (p : Prop) : ∃ b, p = b ∧ ((b = True ∧ p) ∨ (b = False ∧ ¬ p)) := ⟨p, rfl, by by_cases h : p <;> simp [h]⟩
theorem isIdL_bad {l : List UInt8} {i : Nat} {c : UInt8} (hg : l[i]? = some c) (h : letB c = false) (h2 : digB c = false ∨ i = 0) : isIdL l = false := by
  unfold isIdL
  rcases h2 with h2 | h2
  · have : (l.all fun c => letB c || digB c) = false := by
      rw [List.all_eq_false]
      exact ⟨c, List.mem_of_getElem? hg, by rw [h, h2]; decide⟩
    rw [this, Bool.and_false]
  · subst h2
    cases hd : digB c
    · have : (l.all fun c => letB c || digB c) = false := by
        rw [List.all_eq_false]
        exact ⟨c, List.mem_of_getElem? hg, by rw [h, hd]; decide⟩
      rw [this, Bool.and_false]
    · have : l.headD 0 = c := by cases l with
        | nil => cases hg
        | cons a t => injection hg
      rw [this, hd]; simp
theorem isIdL_good {l : List UInt8} (h : ∀ c ∈ l, (letB c || digB c) = true) (h2 : 0 < l.length → digB (l.headD 0) = false) : isIdL l = (decide (1 ≤ l.length) && decide (l.length ≤ 255)) := by
  unfold isIdL
  have : (l.all fun c => letB c || digB c) = true := List.all_eq_true.2 h
  rw [this, Bool.and_true]
  by_cases h0 : 0 < l.length
  · rw [h2 h0, Bool.not_false, Bool.and_true]
  · rw [decide_eq_false (by omega)]; simp
set_option maxHeartbeats 1000000 in
theorem kisid_L (l : List UInt8) (H : Heap) (hl : l.length ≤ 140737488351232) : Does Tryz.prog 30 [.val (.string (bstr l))] H fun d H' => d = .val (.bool (isIdL l)) ∧ H = H' := by
  have hsz : (bstr l).size = l.length := bstr_size _
  refine does_of _ _ Tryz.func30 rfl rfl Tryz.ntmps30 Tryz.results30 (by simp only [List.length_cons, List.length_nil]; omega) fun w0 g0 Q hret => ?_
  refine tq @i64.eq_1 ?_; intro Nx hNx Gx hGx
  refine W_loopN l.length (fun i s => s.df = [] ∧ s.fr 0 = .val (.string (bstr l)) ∧ s.fr 3 = i64 i ∧ s.H = H ∧ (∀ c ∈ l.take i, (letB c || digB c) = true) ∧ (0 < i → digB (l.headD 0) = false)) ⟨rfl, rfl, rfl, rfl, (by intro c hc; cases hc), fun h => absurd h (by omega)⟩ ?_
  rintro i s hi ⟨hdf, f0, f3, hH, ha, hd⟩
  have hx : (i : Int).toNat = i := Int.toNat_natCast _
  have h00 : (0 : Int) ≤ (i : Int) := Int.natCast_nonneg _
  by_cases hil : i < l.length
  case neg =>
    have p1 : ((i : Int) < (l.length : Int)) = False := eq_false (by omega)
    rw [List.take_of_length_le (by omega)] at ha
    have hgood := isIdL_good ha fun h => hd (by omega)
    have q1 : ((l.length : Int) ≥ 1) = (1 ≤ l.length) := propext ⟨fun h => by omega, fun h => by omega⟩
    have q2 : ((l.length : Int) ≤ 255) = (l.length ≤ 255) := propext ⟨fun h => by omega, fun h => by omega⟩
    by_cases hl1 : 1 ≤ l.length
    · have q3 : (1 ≤ l.length) = True := eq_true hl1
      refine tq (cj8 f0 f3 @i64.eq_1 p1 hsz q1 q2 q3) ?_; intro Nx hNx Gx hGx
      refine rt hret hdf ?_
      exact ⟨_, Heap.le_refl _, by rw [hgood, decide_eq_true hl1, Bool.true_and], hH.symm⟩
    · have q3 : (1 ≤ l.length) = False := eq_false hl1
      refine tq (cj8 f0 f3 @i64.eq_1 p1 hsz q1 q2 q3) ?_; intro Nx hNx Gx hGx
      refine rt hret hdf ?_
      exact ⟨_, Heap.le_refl _, by rw [hgood, decide_eq_false hl1, Bool.false_and], hH.symm⟩
  have hil' : (i : Int) < (l.length : Int) := by omega
  have p1 : ((i : Int) < (l.length : Int)) = True := eq_true hil'
  have w3 : IntKind.i64.wrap ((i : Int) + 1) = ((i + 1 : Nat) : Int) := by rw [wrap_i64_of (by omega)]; omega
  have hg : l[i]? = some l[i] := List.getElem?_eq_getElem hil
  obtain ⟨c, hc⟩ : ∃ c, c = l[i] := ⟨_, rfl⟩
  rw [← hc] at hg
  have hnext : (letB c || digB c) = true → (i = 0 → digB c = false) → (∀ c ∈ l.take (i + 1), (letB c || digB c) = true) ∧ (0 < i + 1 → digB (l.headD 0) = false) := fun h1 h2 => by
    refine ⟨fun x hx => ?_, fun _ => ?_⟩
    · rw [List.take_succ_eq_append_getElem hil] at hx
      rcases List.mem_append.1 hx with h | h
      · exact ha x h
      · rw [List.mem_singleton.1 h, ← hc]; exact h1
    · by_cases h0 : i = 0
      · have : l.headD 0 = c := by
          cases l with
          | nil => simp at hil
          | cons a t => rw [hc]; simp [h0]
        rw [this]; exact h2 h0
      · exact hd (by omega)
  have hbad := fun h h2 => isIdL_bad hg h h2
  rcases tfS ((c.toNat : Int) ≥ 97) with ⟨_, p97, ⟨rfl, h97⟩ | ⟨rfl, h97⟩⟩ <;> rcases tfS ((c.toNat : Int) ≤ 122) with ⟨_, p122, ⟨rfl, h122⟩ | ⟨rfl, h122⟩⟩ <;> (try (exfalso; omega)) <;>
    rcases tfS ((c.toNat : Int) ≥ 65) with ⟨_, p65, ⟨rfl, h65⟩ | ⟨rfl, h65⟩⟩ <;> (try (exfalso; omega)) <;> rcases tfS ((c.toNat : Int) ≤ 90) with ⟨_, p90, ⟨rfl, h90⟩ | ⟨rfl, h90⟩⟩ <;> (try (exfalso; omega)) <;>
    rcases tfS ((c.toNat : Int) = 95) with ⟨_, p95, ⟨rfl, h95⟩ | ⟨rfl, h95⟩⟩ <;> (try (exfalso; omega)) <;> rcases tfS ((c.toNat : Int) < 48) with ⟨_, p48, ⟨rfl, h48⟩ | ⟨rfl, h48⟩⟩ <;> (try (exfalso; omega)) <;>
    rcases tfS ((c.toNat : Int) > 57) with ⟨_, p57, ⟨rfl, h57⟩ | ⟨rfl, h57⟩⟩ <;> (try (exfalso; omega)) <;> rcases tfS ((i : Int) = 0) with ⟨_, p0, ⟨rfl, h0⟩ | ⟨rfl, h0⟩⟩
  all_goals (refine tq (cj18 f0 f3 @i64.eq_1 p1 hsz hg hx h00 hil' w3 p97 p122 p65 p90 p95 p48 p57 p0) ?_; intro Nx hNx Gx hGx)
  all_goals first
    | exact ⟨hil, hdf, f0, rfl, hH, hnext (by unfold letB digB; simp; omega) (by unfold digB; simp; omega)⟩
    | (refine rt hret hdf ?_
       exact ⟨_, Heap.le_refl _, by rw [hbad (by unfold letB; simp; omega) (by unfold digB; simp; omega)], hH.symm⟩)
theorem bstr_of' (s : ByteArray) : ∃ l : List UInt8, s = bstr l ∧ l.length = s.size := ⟨s.data.toList, by cases s; simp [bstr], Array.length_toList⟩
theorem isid_N (s : ByteArray) (H : Heap) (hs : big s.size) : Does Tryz.prog 49 [strD s] H fun d H' => d = .val (.bool (isId s)) ∧ H = H' := by
  obtain ⟨l, rfl, hl⟩ := bstr_of' s
  unfold isId
  rw [bstr_toList]
  exact isid_L l H (by rw [hl]; exact hs)
theorem kisid_N (s : ByteArray) (H : Heap) (hs : big s.size) : Does Tryz.prog 30 [strD s] H fun d H' => d = .val (.bool (isId s)) ∧ H = H' := by
  obtain ⟨l, rfl, hl⟩ := bstr_of' s
  unfold isId
  rw [bstr_toList]
  exact kisid_L l H (by rw [hl]; exact hs)
def ixS (l : List ByteArray) (s : ByteArray) : Nat := l.findIdx fun x => decide (x = s)
theorem ixS_lt {l : List ByteArray} {s : ByteArray} : ixS l s < l.length ↔ s ∈ l := by
  unfold ixS
  rw [List.findIdx_lt_length]
  constructor
  · rintro ⟨x, hx, e⟩; rw [← of_decide_eq_true e]; exact hx
  · exact fun h => ⟨s, h, decide_eq_true rfl⟩
theorem ixS_eq {l : List ByteArray} {s : ByteArray} {i : Nat} (h : i < l.length) (he : l[i] = s) (hn : ∀ (k : Nat) (hk : k < l.length), k < i → l[k] ≠ s) : ixS l s = i := by
  unfold ixS
  rw [List.findIdx_eq h]
  exact ⟨decide_eq_true he, fun j hj => decide_eq_false (hn j (by omega) hj)⟩
set_option maxHeartbeats 1000000 in
theorem ikindex_N (l : List ByteArray) (t : ByteArray) (H : Heap) (hl : big l.length) : Does Tryz.prog 31 [.seq 1 (l.map sD), strD t] H fun d H' => d = i64 (if ixS l t < l.length then (ixS l t : Int) else -1) ∧ H = H' := by
  have hml : (List.map sD l).length = l.length := List.length_map _
  unfold big at hl
  refine does_of _ _ Tryz.func31 rfl rfl Tryz.ntmps31 Tryz.results31 (by simp only [List.length_cons, List.length_nil]; omega) fun w0 g0 Q hret => ?_
  refine tq (cj2 @i64.eq_1 @strD.eq_1) ?_; intro Nx hNx Gx hGx
  refine W_loopN l.length (fun i s => s.df = [] ∧ s.fr 0 = .seq 1 (l.map sD) ∧ s.fr 1 = .val (.string t) ∧ s.fr 5 = i64 i ∧ s.H = H ∧ ∀ (k : Nat) (h : k < l.length), k < i → l[k] ≠ t) ⟨rfl, rfl, rfl, rfl, rfl, fun k _ h => absurd h (by omega)⟩ ?_
  rintro i s hi ⟨hdf, f0, f1, f5, hH, ha⟩
  have hx : (i : Int).toNat = i := Int.toNat_natCast _
  have h00 : (0 : Int) ≤ (i : Int) := Int.natCast_nonneg _
  by_cases hil : i < l.length
  case neg =>
    have p1 : ((i : Int) < (l.length : Int)) = False := eq_false (by omega)
    have hn : ¬ ixS l t < l.length := fun h => by
      obtain ⟨k, hk, e⟩ := List.getElem_of_mem (ixS_lt.1 h)
      exact ha k hk (by omega) e
    refine tq (cj6 f0 f1 f5 @i64.eq_1 p1 hml) ?_; intro Nx hNx Gx hGx
    refine rt hret hdf ?_
    exact ⟨_, Heap.le_refl _, by rw [if_neg hn]; rfl, hH.symm⟩
  have hil' : (i : Int) < (l.length : Int) := by omega
  have p1 : ((i : Int) < (l.length : Int)) = True := eq_true hil'
  have hgi := get_strs hil
  have w3 : IntKind.i64.wrap ((i : Int) + 1) = ((i + 1 : Nat) : Int) := by rw [wrap_i64_of (by omega)]; omega
  by_cases he : l[i] = t
  · have q1 : (l[i].toList = t.toList) = True := eq_true (by rw [he])
    have hix := ixS_eq hil he ha
    refine tq (cj11 f0 f1 f5 @i64.eq_1 p1 hml hgi hx h00 hil q1) ?_; intro Nx hNx Gx hGx
    refine rt hret f5 ?_
    exact ⟨_, Heap.le_refl _, by rw [hix, if_pos hil]; rfl, hH.symm⟩
  · have q1 : (l[i].toList = t.toList) = False := eq_false fun h => he (toL_inj.1 h)
    refine tq (cj12 f0 f1 f5 @i64.eq_1 p1 hml hgi hx h00 hil q1 w3) ?_; intro Nx hNx Gx hGx
    refine ⟨hil, hdf, f0, f1, rfl, hH, fun k hk hki => ?_⟩
    by_cases h1 : k = i
    · subst h1; exact he
    · exact ha k hk (by omega)
end Go.Proofs.YtgfhgeelfaalmaaGreatDoor
