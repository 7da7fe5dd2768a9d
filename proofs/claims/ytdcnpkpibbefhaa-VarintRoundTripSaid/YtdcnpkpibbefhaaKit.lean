/- Small words for the walks of this seat: blocks that are known whole, slices that read as lists, addresses. -/
import Derived.WalkKit
import Derived.Lib.Hide
import Derived.Deep.Draws
namespace Go.Proofs.Ytdcnpkpibbefhaa
open Go.RowKit

/-- Block g holds just the cells cs, of element type t, none of them frozen. -/
def Blk (w : World) (g : Nat) (t : TypeId) (cs : Array Value) : Prop := w.heap[g]? = some (.cells cs t (0, 0))
section
variable {w w' : World} {g : Nat} {t : TypeId} {cs : Array Value}
theorem Blk.out (h : Blk w g t cs) : w.heap[g]? = some (.cells cs t (0, 0)) := h
theorem Blk.lt (h : Blk w g t cs) : g < w.heap.size := by
  rcases Nat.lt_or_ge g w.heap.size with hlt | hge
  · exact hlt
  · unfold Blk at h; rw [Array.getElem?_eq_none hge] at h; cases h
theorem Blk.cell (h : Blk w g t cs) (i : Nat) : w.cell? ⟨g, i, none⟩ = cs[i]? := cell_of_row w g i cs t (0, 0) h
theorem Blk.frozen (h : Blk w g t cs) (i : Nat) : w.frozen? ⟨g, i, none⟩ = false := by
  unfold Blk at h
  simp [World.frozen?, h]
theorem Blk.new (w : World) (t : TypeId) (cs : Array Value) : Blk (w.alloc (.cells cs t)) w.heap.size t cs := heap_alloc_new w _
theorem Blk.new_ {n : Nat} (w : World) (t : TypeId) (cs : Array Value) (h : n = w.heap.size) : Blk (w.alloc (.cells cs t)) n t cs := by subst h; exact heap_alloc_new w _
theorem Blk.drew (h : Blk w g t cs) : Blk w.drew g t cs := h
theorem Blk.drewN (h : Blk w g t cs) (n : Nat) : Blk (w.drewN n) g t cs := h
theorem Blk.alloc (h : Blk w g t cs) (o : Obj) : Blk (w.alloc o) g t cs := (Below.heap_alloc w o g h.lt).trans h
theorem Blk.set_ (h : Blk w g t cs) (i : Nat) (u : Value) : Blk (w.setCell ⟨g, i, none⟩ u) g t (cs.setIfInBounds i u) := by
  unfold Blk at h ⊢
  simp [World.setCell, Array.getElem?_modify, h]
theorem Blk.far (h : Blk w g t cs) {p : Addr} (hp : g ≠ p.block) (u : Value) : Blk (w.setCell p u) g t cs := (Below.heap_setCell w p u g hp).trans h
theorem Blk.setRow_far (h : Blk w g t cs) {g' : Nat} (hp : g ≠ g') (c : Array Value) : Blk (w.setRow g' c) g t cs := (setRow_other w g' g c hp).trans h
theorem Blk.setRow_ (h : Blk w g t cs) (c : Array Value) : Blk (w.setRow g c) g t c := setRow_heap w g cs c t (0, 0) h
theorem Blk.below {B : Nat} (h : Blk w g t cs) (hb : Below B w w') (hg : g < B) : Blk w' g t cs := (hb.block g hg).trans h
theorem Blk.grown {row : Option Nat} (h : Blk w g t cs) (hb : w.grownBy w' row) (hg : some g ≠ row) : Blk w' g t cs := (hb.block g h.lt hg).trans h
end

theorem below_setRow {B : Nat} {a w : World} (h : Below B a w) {g : Nat} (hp : B ≤ g) (c : Array Value) : Below B a (w.setRow g c) :=
  h.trans ⟨rfl, rfl, rfl, by simp, fun k hk => setRow_other w g k c (by omega)⟩
theorem below_drewN {B : Nat} {a w : World} (h : Below B a w) (n : Nat) : Below B a (w.drewN n) := ⟨h.os, h.tape, h.output, h.size, h.block⟩

/-- The slice that begins at A reads as the cells xs, all in blocks below B. -/
def Rd (w : World) (B : Nat) (A : Option Addr) (xs : List Value) : Prop :=
  ∀ j u, xs[j]? = some u → ∃ b o, A = some ⟨b, o, none⟩ ∧ b < B ∧ w.cell? ⟨b, o + j, none⟩ = some u
section
variable {w w' : World} {B B' : Nat} {A : Option Addr} {xs : List Value}
theorem Rd.keep (h : Rd w B A xs) (hk : ∀ p : Addr, p.block < B → w'.cell? p = w.cell? p) : Rd w' B A xs := fun j u hu => by
  obtain ⟨b, o, e, hb, hc⟩ := h j u hu
  exact ⟨b, o, e, hb, (hk _ hb).trans hc⟩
theorem Rd.more (h : Rd w B A xs) (hB : B ≤ B') : Rd w B' A xs := fun j u hu => by
  obtain ⟨b, o, e, hb, hc⟩ := h j u hu
  exact ⟨b, o, e, by omega, hc⟩
theorem Rd.below (h : Rd w B A xs) (hb : Below B' w w') (hB : B ≤ B') : Rd w' B A xs := h.keep fun _ hp => hb.cell (by omega)
theorem Rd.drew (h : Rd w B A xs) : Rd w.drew B A xs := h
theorem Rd.drewN (h : Rd w B A xs) (k : Nat) : Rd (w.drewN k) B A xs := h
theorem Rd.alloc (h : Rd w B A xs) (hB : B ≤ w.heap.size) (o : Obj) : Rd (w.alloc o) B A xs := h.keep fun p hp => World.cell?_alloc_lt w o p (by omega)
theorem Rd.setCell (h : Rd w B A xs) {p : Addr} (hB : B ≤ p.block) (u : Value) : Rd (w.setCell p u) B A xs :=
  h.keep fun q hq => World.cell?_setCell_other w p q u (fun e => by subst e; omega)
theorem Rd.grown (h : Rd w B A xs) {row : Option Nat} (hg : w.grownBy w' row) (hB : B ≤ w.heap.size) (hr : ∀ g, row = some g → B ≤ g) : Rd w' B A xs :=
  h.keep fun p hp => World.cell?_of_block (hg.block p.block (by omega) (fun e => by have := hr _ e.symm; omega))
theorem Rd.nil (w : World) (B : Nat) (A : Option Addr) : Rd w B A [] := fun j u hu => by simp at hu
theorem Rd.of_own {base : Nat} {e : TypeId} {n c : Nat} (h : w.ownsRow base e 1 (.slice A n c) n xs) : Rd w w.heap.size A xs := fun j u hu => by
  rcases h.2 with ⟨hv, hn⟩ | ⟨g, cap, cur, hv, hb, hg, _⟩
  · subst hn
    have : xs = [] := List.eq_nil_of_length_eq_zero (by simpa using h.1)
    subst this
    simp at hu
  · injection hv with hA
    subst hA
    exact ⟨g, 0, rfl, (Array.getElem?_eq_some_iff.1 hg).1, by have := h.cells (g := g) rfl j u hu; rw [Addr.add_lit] at this; exact this⟩
theorem Rd.of_blk {g : Nat} {t : TypeId} {cs : Array Value} (h : Blk w g t cs) (hx : ∀ (j : Nat) (u : Value), xs[j]? = some u → cs[j]? = some u) : Rd w w.heap.size (some ⟨g, 0, none⟩) xs :=
  fun (j : Nat) (u : Value) hu => ⟨g, 0, rfl, h.lt, by rw [Nat.zero_add, h.cell]; exact hx j u hu⟩
end

/-- The cells of a string of bytes. -/
def bv (l : List UInt8) : List Value := l.map fun c => .int .u8 (c.toNat : Int)
theorem bv_length (l : List UInt8) : (bv l).length = l.length := by simp [bv]
theorem bv_get {l : List UInt8} {j : Nat} (h : j < l.length) : (bv l)[j]? = some (.int .u8 ((l[j]).toNat : Int)) := by simp [bv, h]
theorem bv_append (l m : List UInt8) : bv (l ++ m) = bv l ++ bv m := by simp [bv]
theorem bv_one {l : List UInt8} : ∀ u ∈ bv l, u.oneCell' = true := by
  intro u hu
  obtain ⟨c, _, rfl⟩ := List.mem_map.1 hu
  rfl
theorem Rd.byte {w : World} {B : Nat} {A : Option Addr} {l : List UInt8} (h : Rd w B A (bv l)) {j : Nat} (hj : j < l.length) :
    ∃ b o, A = some ⟨b, o, none⟩ ∧ b < B ∧ w.cell? ⟨b, o + j, none⟩ = some (.int .u8 ((l[j]).toNat : Int)) := h j _ (bv_get hj)
theorem u8_lt (c : UInt8) : c.toNat < 256 := c.toNat_lt
theorem take_snoc {α : Type} (l : List α) (k : Nat) (h : k < l.length) : l.take (k + 1) = l.take k ++ [l[k]] := by
  rw [List.take_succ_eq_append_getElem h]

theorem ret_eq {a b : Value} (h : a = b) : Ending.returned a = .returned b := by rw [h]
theorem int_eq {k : IntKind} {a b : Int} (h : a = b) : Value.int k a = .int k b := by rw [h]

/-- A word of 32 bits as the walk's number. A plain definition: simp does not look behind it. -/
def N32 (x : BitVec 32) : Int := (x.toNat : Int)
theorem N32_def (x : BitVec 32) : N32 x = (x.toNat : Int) := rfl
theorem N32_pos (x : BitVec 32) : 0 ≤ N32 x := by unfold N32; omega
theorem N32_lt (x : BitVec 32) : N32 x < 4294967296 := by have := x.isLt; unfold N32; omega
theorem N32_le (x : BitVec 32) : N32 x ≤ 4294967295 := by have := N32_lt x; omega
theorem N32_of {a : Int} (h : 0 ≤ a) (h' : a < 4294967296) : ∃ x, a = N32 x := ⟨BitVec.ofNat 32 a.toNat, by unfold N32; rw [BitVec.toNat_ofNat]; omega⟩
theorem N32_wf (x : BitVec 32) : (Lit.int .u32 (N32 x)).wf = true := WalkArith.wf_u32 ⟨N32_pos x, by have := N32_lt x; omega⟩
theorem N32_inj {x y : BitVec 32} (h : N32 x = N32 y) : x = y := BitVec.eq_of_toNat_eq (by unfold N32 at h; omega)
theorem N32_beq (x y : BitVec 32) : (N32 x == N32 y) = decide (x = y) := by
  by_cases h : x = y
  · simp [h]
  · have : N32 x ≠ N32 y := fun e => h (N32_inj e)
    simp [h, this]
theorem bits_xor32 (a b : BitVec 32) : bits .xor .u32 (N32 a) (N32 b) = N32 (a ^^^ b) := by
  unfold N32
  rw [u32_xor_nat _ _ a.isLt b.isLt, BitVec.toNat_xor]
theorem bits_and32 (a b : BitVec 32) : bits .and .u32 (N32 a) (N32 b) = N32 (a &&& b) := by
  unfold N32
  rw [u32_and_nat _ _ a.isLt b.isLt, BitVec.toNat_and]
theorem not32 (s : BitVec 32) : bits .xor .u32 IntKind.u32.max (N32 s) = N32 (~~~ s) := by
  rw [show IntKind.u32.max = N32 (4294967295#32) by decide, bits_xor32]
  congr 1
/-- A string of bytes as Go's string. -/
def bstr (l : List UInt8) : ByteArray := ⟨l.toArray⟩
theorem bstr_toList (l : List UInt8) : (bstr l).data.toList = l := by simp [bstr]
theorem bstr_size (l : List UInt8) : (bstr l).size = l.length := by simp [bstr, ByteArray.size]
theorem bstr_inj {l m : List UInt8} (h : bstr l = bstr m) : l = m := by
  have := congrArg (fun b : ByteArray => b.data.toList) h
  simpa [bstr_toList] using this
theorem run_str {P : Program} (w : World) {B : Nat} {A : Option Addr} {l : List UInt8} (hR : Rd w B A (bv l)) (src dst e : TypeId) (hs : P.underlying src = some (.slice e)) (he : P.underlying e = some (.int .u8))
    (hd : P.underlying dst = some .string) (cap : Nat) : (convert src dst (.slice A l.length cap)).run P w = .ok (.string (bstr l)) w := by
  have hx : strOfNums (l.map fun c => (c.toNat : Int)) = bstr l := by
    simp only [strOfNums, bstr, List.map_map]
    congr 2
    conv => rhs; rw [← List.map_id l]
    apply List.map_congr_left
    intro c _
    simp
  by_cases h0 : l = []
  · subst h0
    rcases A with _ | ⟨b, o, sp⟩
    · rw [run_convert_bytes_nil w src e hs he _ _ dst hd]; rfl
    · rw [run_convert_bytes_string w src dst e _ _ cap hs he hd, run_bytesToString w _ _ cap [] (by simp [loadCells, loadCellsFrom])]
      rfl
  · have hpos : 0 < l.length := by
      rcases l with _ | ⟨c, l⟩
      · exact absurd rfl h0
      · simp
    obtain ⟨b, o, rfl, _, _⟩ := hR.byte hpos
    rw [run_convert_bytes_arg w src e hs he b o l.length cap (l.map fun c => (c.toNat : Int)) (by simp) (fun i hi => by
      obtain ⟨b', o', e', _, hc⟩ := hR.byte hi
      cases e'
      rw [hc]
      simp [List.getD, hi]) dst hd, hx]
theorem bstr_toL (l : List UInt8) : (bstr l).toList = l := ByteArray.toList_mk l
theorem bstr_beq (l m : List UInt8) : ((bstr l).toList == (bstr m).toList) = decide (l = m) := by
  rw [bstr_toL, bstr_toL]
  by_cases h : l = m
  · simp [h]
  · simp [h]
/-- n zero bytes. -/
def zeros (n : Nat) : List Value := List.replicate n (.int .u8 0)
theorem zeros_length (n : Nat) : (zeros n).length = n := by simp [zeros]
theorem run_mk {P : Program} (t e : TypeId) (i : TypeInfo) (ht : P.underlying t = some (.slice e)) (hi : P.info? e = some i) (hz : i.zero = some (.int .u8 0)) (hs : i.size = 1) (hb : i.bytes = 1)
    (n c : Nat) (hnc : n ≤ c) (h : c ≤ 281474976710656) (w : World) :
    (Instr.makeSlice t (.int .i64 (n : Int)) (.int .i64 (c : Int))).run P w = .ok (.slice (some ⟨w.heap.size, 0, none⟩) n c) (w.alloc (.cells (zeros c).toArray e)) := by
  have hr := run_make (P := P) w t e i (.int .u8 0) ht hi hz .i64 .i64 n c (by omega) (by omega) (by rw [hb]; omega) (by omega)
  simp only [Int.toNat_natCast, hs, Nat.mul_one] at hr
  rw [hr]
  congr 3
  have : (madeCells #[Value.int IntKind.u8 0] c).toList = zeros c := toList_madeCells_one _ _
  rw [← this]
  rfl
theorem own_of_blk {w : World} {base g : Nat} {e : TypeId} {cur xs : List Value} {n cap : Nat} (h : Blk w g e cur.toArray) (hb : base ≤ g) (hl : cur.length = cap) (hn : n ≤ cap) (hm : cap ≤ maxLen) (hx : cur.take n = xs) :
    w.ownsRow base e 1 (.slice (some ⟨g, 0, none⟩) n cap) n xs := by
  refine ⟨?_, .inr ⟨g, cap, cur.toArray, rfl, hb, h, hn, hm, by simp [hl], by simpa using hx⟩⟩
  rw [← hx, List.length_take]; omega
end Go.Proofs.Ytdcnpkpibbefhaa
