/- append onto a row of the call's own, from whatever reads as a list; an operation whose guard says yes. -/
import Derived.Test.YtdcnpkpibbefhaaKit
import Derived.Laws.AppendOwnNone
import Derived.Maps.AppendAt
import Derived.Laws.CopyOwn
import Derived.Lib.SlBytesConst
namespace Go.Proofs.Ytdcnpkpibbefhaa
open Go.RowKit

/-- An operation whose guard says yes is walked as one without a guard. -/
theorem wpList_unguard {P : Program} {ops : Array Oper} {rest : List Oper} {a : Act} {w : World} {Q : Exit → Act → World → Prop} {d : Option Tmp} {op : Op} {ty : TypeId} {pos : String} {af : Array Edge} {g : Option (Nat × Bool)}
    (hw : Region.wanted ⟨d, op, ty, pos, af, g⟩ (yielded ops a.tmps) = true) (h : wpList P ops Q (⟨d, op, ty, pos, af, none⟩ :: rest) a w) :
    wpList P ops Q (⟨d, op, ty, pos, af, g⟩ :: rest) a w := by
  unfold wpList at h ⊢
  rw [if_pos hw]
  rw [if_pos (by rfl)] at h
  exact h

section
variable {P : Program} (w : World)
theorem run_app (base : Nat) (t ty e : TypeId) (i : TypeInfo) (z : Value) (bytes : Nat) (ht : P.underlying t = some (.slice e)) (hi : P.info? e = some i) (hz : i.zero = some z)
    (hsize : i.size = 1) (hby : i.bytes = bytes) (hzs : z.cells.size = 1) (v : Value) (n : Nat) (xs : List Value) (hown : w.ownsRow base e 1 v n xs)
    (B : Nat) (A : Option Addr) (m c : Nat) (news : List Value) (hr : Rd w B A news) (hl : news.length = m) (h1 : ∀ u ∈ news, u.oneCell' = true)
    (h63 : n + m ≤ maxLen) (hbytes : (n + m) * bytes ≤ 140737488355328) (hbase : base ≤ w.heap.size) :
    ∃ v' w', (Builtin.append_ #[t, t] ty #[v, .slice A m c]).run P w = .ok v' w' ∧ w'.ownsRow base e 1 v' (n + m) (xs ++ news) ∧ w.grownBy w' v.ownBlock := by
  rcases A with _ | ad
  · have hn : news = [] := by
      rcases news with _ | ⟨u, us⟩
      · rfl
      · obtain ⟨b, o, e', _⟩ := hr 0 u rfl
        cases e'
    subst hn
    obtain rfl : m = 0 := by simpa using hl.symm
    refine ⟨v, w, ?_, by simpa using hown, World.grownBy.refl w _⟩
    rcases hown.2 with ⟨rfl, rfl⟩ | ⟨g, cap, cur, rfl, _, _, hnc, _⟩
    · simp [Builtin.append_, run_underlying ht, sizeOf, typeInfo, hi, Builtin.lenOf, Builtin.firstCells]
    · simp [Builtin.append_, run_underlying ht, sizeOf, typeInfo, hi, Builtin.lenOf, Builtin.firstCells, hnc, storeCells]
  · obtain ⟨v', w', hrun, h2, h3, _⟩ := run_append_own (P := P) w base t ty e i z 1 bytes ht hi hz hsize hby hzs (by omega) v n xs hown ad m c news (by omega) (fun j u hu => by
      obtain ⟨b, o, e', _, hc⟩ := hr j u hu
      cases e'
      rw [Addr.add_lit]
      exact hc) h1 h63 hbytes hbase
    exact ⟨v', w', hrun, h2, h3⟩
theorem wpList_app {ops : Array Oper} {rest : List Oper} {o : Oper} {a : Act} {Q : Exit → Act → World → Prop} (hgd : o.guard = none) (s x : Operand) (t : TypeId)
    (ho : o.op = .call { callee := .builtin .append, args := #[s, x], argTypes := #[t, t] })
    (base : Nat) (e : TypeId) (z : Value) (bytes : Nat) (ht : P.underlying t = some (.slice e)) (hinfo : (P.info? e).map (fun i => (i.zero, i.size, i.bytes)) = some (some z, 1, bytes)) (hzs : z.cells.size = 1)
    (v : Value) (n : Nat) (xs : List Value) (hs : a.eval s = v) (hown : w.ownsRow base e 1 v n xs)
    (B : Nat) (A : Option Addr) (m c : Nat) (news : List Value) (hx : a.eval x = .slice A m c) (hr : Rd w B A news) (hl : news.length = m) (h1 : ∀ u ∈ news, u.oneCell' = true)
    (h63 : n + m ≤ maxLen) (hbytes : (n + m) * bytes ≤ 140737488355328) (hbase : base ≤ w.heap.size)
    (h : ∀ A' c' w', w'.ownsRow base e 1 (.slice A' (n + m) c') (n + m) (xs ++ news) → w.grownBy w' v.ownBlock → wpList P ops Q rest (a.put o.dst (.slice A' (n + m) c')) w') : wpList P ops Q (o :: rest) a w := by
  obtain ⟨i, hi, hz, hsize, hby⟩ := info_parts hinfo
  refine wpList_plain hgd fun K hK => ?_
  obtain ⟨v', w', hrun, h2, h3⟩ := run_app w base t o.type e i z bytes ht hi hz hsize hby hzs v n xs hown B A m c news hr hl h1 h63 hbytes hbase
  obtain ⟨A', c', rfl⟩ : ∃ A' c', v' = .slice A' (n + m) c' := by
    rcases h2.2 with ⟨rfl, hn⟩ | ⟨g, cap, _, rfl, _⟩
    · exact ⟨none, 0, by rw [hn]⟩
    · exact ⟨_, _, rfl⟩
  unfold Oper.wp
  simp [execOp, ho, resolve, invoke, builtin, hs, hx, hrun, Result.andThen]
  exact hK _ _ (h A' c' w' h2 h3)
end
theorem below_of_grown {B : Nat} {w0 w w' : World} {base : Nat} {e : TypeId} {v : Value} {n : Nat} {xs : List Value} (hb : Below B w0 w) (hown : w.ownsRow base e 1 v n xs) (hg : w.grownBy w' v.ownBlock) (hB : B ≤ w.heap.size) (hbase : B ≤ base) :
    Below B w0 w' := hb.grown hg hB (fun k hk => Nat.le_trans hbase (hown.lt k hk).1)
theorem Rd.kept {w w' : World} {B : Nat} {A : Option Addr} {ys : List Value} {base : Nat} {e : TypeId} {v : Value} {n : Nat} {xs : List Value} (h : Rd w B A ys) (hown : w.ownsRow base e 1 v n xs) (hg : w.grownBy w' v.ownBlock) (hB : B ≤ base) (hb : base ≤ w.heap.size) : Rd w' B A ys :=
  h.grown hg (by omega) (fun g hg' => Nat.le_trans hB (hown.lt g hg').1)
theorem own_cap {w : World} {base : Nat} {e : TypeId} {size : Nat} {A : Option Addr} {n m c : Nat} {xs : List Value} (h : w.ownsRow base e size (.slice A m c) n xs) : n ≤ c := by
  rcases h.2 with ⟨hv, hn⟩ | ⟨g, cap, cur, hv, _, _, hnc, _⟩
  · omega
  · injection hv with _ _ hc
    omega
/-- An empty row of the call's own: '[]byte{}'. -/
theorem own_empty {w : World} {base g : Nat} {e : TypeId} (h : Blk w g e #[]) (hb : base ≤ g) : w.ownsRow base e 1 (.slice (some ⟨g, 0, none⟩) 0 0) 0 [] :=
  ⟨rfl, .inr ⟨g, 0, #[], rfl, hb, h, Nat.le_refl _, by unfold maxLen; omega, rfl, rfl⟩⟩
theorem Rd.lit (w : World) (t : TypeId) (cs : List Value) : Rd (w.alloc (.cells cs.toArray t)) (w.heap.size + 1) (some ⟨w.heap.size, 0, none⟩) cs :=
  fun j u hu => ⟨w.heap.size, 0, rfl, by omega, by rw [Nat.zero_add, (Blk.new w t cs.toArray).cell]; simpa using hu⟩
theorem Rd.litf (w : World) (t : TypeId) (cs : List Value) (fr : Nat × Nat) : Rd (w.alloc (.cells cs.toArray t fr)) (w.heap.size + 1) (some ⟨w.heap.size, 0, none⟩) cs :=
  fun j u hu => ⟨w.heap.size, 0, rfl, by omega, by rw [Nat.zero_add, cell_of_row _ _ _ _ _ _ (heap_alloc_new w _)]; simpa using hu⟩
/-- n cells, the first k of them f's, the rest z. -/
def part (f : Nat → Value) (z : Value) (n k : Nat) : Array Value := Array.ofFn (n := n) fun i => if i.val < k then f i.val else z
theorem part_size (f : Nat → Value) (z : Value) (n k : Nat) : (part f z n k).size = n := by simp [part]
theorem part_zero (f : Nat → Value) (z : Value) (n : Nat) : part f z n 0 = Array.replicate n z := by
  apply Array.ext
  · simp [part]
  · intro i h1 h2; simp [part]
theorem part_set (f : Nat → Value) (z : Value) (n k : Nat) : (part f z n k).setIfInBounds k (f k) = part f z n (k + 1) := by
  apply Array.ext
  · simp [part]
  · intro i h1 h2
    have hi : i < (part f z n k).size := by simpa using h1
    rw [Array.getElem_setIfInBounds hi]
    simp only [part, Array.getElem_ofFn]
    by_cases h : k = i
    · subst h; simp
    · have : i < k + 1 ↔ i < k := by omega
      rw [if_neg h]; simp only [this]
theorem part_get (f : Nat → Value) (z : Value) (n k i : Nat) (hi : i < n) : (part f z n k)[i]? = some (if i < k then f i else z) := by
  simp [part, hi]
theorem zeros_part (f : Nat → Value) (n : Nat) : (zeros n).toArray = part f (.int .u8 0) n 0 := by
  rw [part_zero]; simp [zeros]
theorem xor8 (x y : UInt8) : bits .xor .u8 (x.toNat : Int) (y.toNat : Int) = (((x ^^^ y).toNat : Nat) : Int) := by
  rw [u8_xor_nat _ _ x.toNat_lt y.toNat_lt, UInt8.toNat_xor]
theorem Rd.cut {w : World} {B : Nat} {A : Option Addr} {l : List UInt8} (h : Rd w B A (bv l)) (k : Nat) : Rd w B A (bv (l.take k)) := by
  intro j u hu
  have hd : bv (l.take k) = (bv l).take k := by simp [bv]
  rw [hd, List.getElem?_take] at hu
  split at hu
  · exact h j u hu
  · cases hu
/-- What a proof's frame says of a slice of integers that came in. -/
def Row (k : IntKind) (bytes : Nat) (w : World) (a : Option Addr) (len cap : Nat) (zs : List Int) : Prop :=
  (a = none ∧ len = 0 ∧ cap = 0 ∧ zs = []) ∨
  ∃ x, a = some x ∧ len ≤ cap ∧ cap * bytes ≤ 140737488351232 ∧ zs.length = cap ∧ (∀ i, i < zs.length → w.cell? (x.add i) = some (.int k (zs.getD i 0))) ∧ ∀ n ∈ zs, (Lit.int k n).wf = true
theorem wf_u8_bd {n : Int} (h : (Lit.int .u8 n).wf = true) : 0 ≤ n ∧ n < 256 := by
  simp [Lit.wf, IntKind.min, IntKind.max, IntKind.signed, IntKind.bits] at h
  omega
theorem wf_u32_bd {n : Int} (h : (Lit.int .u32 n).wf = true) : 0 ≤ n ∧ n < 4294967296 := by
  simp [Lit.wf, IntKind.min, IntKind.max, IntKind.signed, IntKind.bits] at h
  omega
theorem wf_u16_bd {n : Int} (h : (Lit.int .u16 n).wf = true) : 0 ≤ n ∧ n < 65536 := by
  simp [Lit.wf, IntKind.min, IntKind.max, IntKind.signed, IntKind.bits] at h
  omega
theorem wf_u64_bd {n : Int} (h : (Lit.int .u64 n).wf = true) : 0 ≤ n ∧ n < 18446744073709551616 := by
  simp [Lit.wf, IntKind.min, IntKind.max, IntKind.signed, IntKind.bits] at h
  omega
theorem wf_i64_bd {n : Int} (h : (Lit.int .i64 n).wf = true) : -9223372036854775808 ≤ n ∧ n ≤ 9223372036854775807 := by
  simp [Lit.wf, IntKind.min, IntKind.max, IntKind.signed, IntKind.bits] at h
  omega
theorem cell_lt {w : World} {a : Addr} {v : Value} (h : w.cell? a = some v) : a.block < w.heap.size := block_lt_of_cell h
/-- A slice of bytes that came in reads as a list of bytes. -/
theorem rd_of_row {w : World} {a : Option Addr} {len cap : Nat} {zs : List Int} (h : Row .u8 1 w a len cap zs) :
    ∃ l : List UInt8, l.length = len ∧ Rd w w.heap.size a (bv l) ∧ len ≤ cap ∧ cap ≤ 140737488351232 := by
  rcases h with ⟨rfl, rfl, rfl, rfl⟩ | ⟨x, rfl, hl, hm, hz, hcell, hwf⟩
  · exact ⟨[], rfl, Rd.nil _ _ _, Nat.le_refl _, by omega⟩
  · refine ⟨(zs.take len).map fun n => UInt8.ofNat n.toNat, by simp; omega, ?_, hl, by omega⟩
    intro j u hu
    have hj : j < len := by
      have := (List.getElem?_eq_some_iff.1 hu).1
      simp [bv] at this
      omega
    have hc := hcell j (by omega)
    obtain ⟨b, o, sp⟩ := x
    have hsp : sp = none := by
      have h0 := hcell 0 (by omega)
      simpa [Addr.add] using World.cell?_spot h0
    subst hsp
    rw [Addr.add_lit] at hc
    refine ⟨b, o, rfl, cell_lt hc, ?_⟩
    rw [hc]
    have hzj : zs[j]? = some (zs.getD j 0) := by simp [List.getD, show j < zs.length by omega]
    have hw := wf_u8_bd (hwf (zs.getD j 0) (List.mem_of_getElem? hzj))
    simp only [bv, List.map_map, List.getElem?_map, List.getElem?_take, if_pos hj, hzj, Option.map_some] at hu
    injection hu with hu
    rw [← hu]
    generalize zs.getD j 0 = n at hw
    refine congrArg some (int_eq ?_)
    simp
    omega
end Go.Proofs.Ytdcnpkpibbefhaa
