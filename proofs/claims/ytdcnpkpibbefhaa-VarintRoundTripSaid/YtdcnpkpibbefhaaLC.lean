/- A program logic over descriptions of values. Part 12: what the walks use. -/
import Derived.Test.YtdcnpkpibbefhaaLB
namespace Go.Proofs.Ytdcnpkpibbefhaa
open Go.RowKit
set_option linter.unusedVariables false
set_option linter.unusedSimpArgs false

def condV (d : D) (A B : Prop) : Prop :=
  match d with
  | .val (.bool b) => selV b A B
  | _ => False
theorem W_if {cx : Cx} {Q : Exit → St → Prop} {s : St} {c : Operand} {x y : Code} (h : condV (s.ev c) (W cx x Q s) (W cx y Q s)) : W cx (.cond c x y) Q s := by
  unfold condV at h
  split at h
  · rename_i b hb
    exact W_cond b hb (selV_t h) (selV_f h)
  · exact h.elim
theorem put_some_fr (s : St) (t : Nat) (d : D) (x : Nat) : (s.put (some t) d).fr x = if x = t then d else s.fr x := rfl
theorem put_none (s : St) (d : D) : s.put none d = s := rfl
theorem put_H (s : St) (t : Option Tmp) (d : D) : (s.put t d).H = s.H := by cases t <;> rfl
theorem put_df (s : St) (t : Option Tmp) (d : D) : (s.put t d).df = s.df := by cases t <;> rfl
theorem withH_H (s : St) (H : Heap) : (s.withH H).H = H := rfl
theorem withH_fr (s : St) (H : Heap) : (s.withH H).fr = s.fr := rfl
theorem withH_df (s : St) (H : Heap) : (s.withH H).df = s.df := rfl
theorem ev_tmp (s : St) (t : Nat) : s.ev (.tmp t) = s.fr t := rfl
theorem ev_const (s : St) (v : Value) : s.ev (.const v) = D.ofV v := rfl
theorem ev_func (s : St) (f : FuncId) : s.ev (.func f) = .fn f [] := rfl
theorem ev_global (s : St) (g : Nat) : s.ev (.global g) = .val (.pointer (some ⟨g, 0, none⟩)) := rfl
theorem init_fr (ds : List D) (H : Heap) (t : Nat) : (St.init ds H).fr t = ds.getD t (.val undef) := rfl
theorem init_H (ds : List D) (H : Heap) : (St.init ds H).H = H := rfl
theorem init_df (ds : List D) (H : Heap) : (St.init ds H).df = [] := rfl
theorem evs_arr (s : St) (l : List Operand) : s.evs ⟨l⟩ = l.map s.ev := rfl
theorem parts_arr (s : St) (l : List (Nat × Operand)) : s.parts ⟨l⟩ = l.map fun p => (p.1, s.ev p.2) := rfl
theorem ofV_int (k : IntKind) (n : Int) : D.ofV (.int k n) = .val (.int k n) := rfl
theorem ofV_bool (b : Bool) : D.ofV (.bool b) = .val (.bool b) := rfl
theorem ofV_string (s : ByteArray) : D.ofV (.string s) = .val (.string s) := rfl
theorem ofV_slice (a : Option Addr) (n c : Nat) : D.ofV (.slice a n c) = .val (.slice a n c) := rfl
theorem ofV_pointer (a : Option Addr) : D.ofV (.pointer a) = .val (.pointer a) := rfl
theorem ofV_map (a : Option Nat) : D.ofV (.map a) = .val (.map a) := rfl
theorem ofV_nilFunc : D.ofV .nilFunc = .val .nilFunc := rfl
theorem toList_arr {α : Type} (l : List α) : (⟨l⟩ : Array α).toList = l := rfl
theorem dst_arr (l : List Oper) (j : Nat) : dstOf ⟨l⟩ j = (l[j]?).bind (·.dst) := by simp [dstOf]
/-- The results. -/
def resD (s : St) : ResultVar → Option D
  | .tmp t => some (s.fr t)
  | .cell _ _ => none
def retV (P : Program) (s : St) (rs : List ResultVar) (K : D → Prop) : Prop :=
  match rs with
  | [.tmp t] => K (s.fr t)
  | [.tmp t, .tmp u] => K (.tup [s.fr t, s.fr u])
  | [.tmp t, .tmp u, .tmp v] => K (.tup [s.fr t, s.fr u, s.fr v])
  | [] => K (.tup [])
  | [.cell a t] => ldV P s.H t (s.fr a) K
  | [.cell a t, .cell b u] => ldV P s.H t (s.fr a) fun x => ldV P s.H u (s.fr b) fun y => K (.tup [x, y])
  | [.cell a t, .cell b u, .cell c v] => ldV P s.H t (s.fr a) fun x => ldV P s.H u (s.fr b) fun y => ldV P s.H v (s.fr c) fun z => K (.tup [x, y, z])
  | _ => False
theorem run_cell {P : Program} {cx : Cx} {s : St} {a : Act} {w : World} (m : Match cx s a w) {t : Nat} {ty : TypeId} {K : D → Prop} (h : ldV P s.H ty (s.fr t) K) : ∃ u d p, a.tmps[t]?.getD undef = .pointer (some p) ∧ (loadVar ty p).run P w = .ok u w ∧ D.is w s.H.others d u ∧ K d := by
  obtain ⟨u, d, h1, h2, h3⟩ := run_ldV m.H h (m.fr t)
  have hp : ∃ p, a.tmps.getD t undef = .pointer (some p) := by
    have hf := m.fr t
    unfold ldV at h
    split at h
    · split at h
      · rename_i e; rw [e] at hf; simp only [D.is] at hf; obtain ⟨b, o, hv, _⟩ := hf; exact ⟨_, hv⟩
      · rename_i e; rw [e] at hf; simp only [D.is] at hf; exact ⟨_, hf⟩
      · exact h.elim
    · exact h.elim
  obtain ⟨p, hp⟩ := hp
  refine ⟨u, d, p, by rw [← Array.getD_eq_getD_getElem?]; exact hp, ?_, h2, h3⟩
  rw [hp] at h1
  simpa only [Instr.loadAt, Instr.sureAddr, Sem.run_bind, Sem.run_pure, Result.andThen] using h1
/-- A function's end. -/
theorem endQ_ret {cx : Cx} {fn : Func} {K : D → Heap → Prop} {s : St} {e : Exit} (he : e = .normal ∨ e = .ret) (hdf : s.df = []) (h : retV cx.P s fn.results.toList fun d => ∃ H', H'.le s.H ∧ K d H') : endQ cx fn K e s := by
  have key : ResIs cx fn s K := by
    intro a w m
    have fin : ∀ (v : Value) (d : D), (results fn a.tmps).run cx.P w = .ok v w → D.is w s.H.others d v → (∃ H', H'.le s.H ∧ K d H') → ∃ v d H', (results fn a.tmps).run cx.P w = .ok v w ∧ D.is w H'.others d v ∧ H'.le s.H ∧ K d H' := by
      rintro v d h1 h2 ⟨H', h3, h4⟩
      exact ⟨v, d, H', h1, D.is_keep (Kept.less h3 w) _ h2, h3, h4⟩
    have hrs : ∀ l, fn.results.toList = l → fn.results = ⟨l⟩ := fun l e => Array.ext' (by simpa using e)
    unfold retV at h
    split at h
    · rename_i t e
      exact fin _ _ (by simp [results, hrs _ e]) (m.fr t) h
    · rename_i t u e
      exact fin (.tuple #[a.tmps.getD t undef, a.tmps.getD u undef]) _ (by simp [results, hrs _ e]) (by simp only [D.is, valsAll]; exact ⟨_, rfl, _, _, rfl, m.fr t, _, _, rfl, m.fr u, rfl⟩) h
    · rename_i t u v e
      exact fin (.tuple #[a.tmps.getD t undef, a.tmps.getD u undef, a.tmps.getD v undef]) _ (by simp [results, hrs _ e]) (by simp only [D.is, valsAll]; exact ⟨_, rfl, _, _, rfl, m.fr t, _, _, rfl, m.fr u, _, _, rfl, m.fr v, rfl⟩) h
    · rename_i e
      exact fin (.tuple #[]) _ (by simp [results, hrs _ e]) (by simp only [D.is, valsAll]; exact ⟨_, rfl, rfl⟩) h
    · rename_i b t e
      obtain ⟨x, dx, p, h0, h1, h2, h3⟩ := run_cell m h
      exact fin x dx (by simp [results, hrs _ e, h0, h1, Result.andThen, asAddr]) h2 h3
    · rename_i b t c u e
      obtain ⟨x, dx, p, h0, h1, h2, h3⟩ := run_cell m h
      obtain ⟨y, dy, q, g0, h4, h5, h6⟩ := run_cell m h3
      exact fin (.tuple #[x, y]) _ (by simp [results, hrs _ e, h0, h1, g0, h4, Result.andThen, asAddr]) (by simp only [D.is, valsAll]; exact ⟨_, rfl, _, _, rfl, h2, _, _, rfl, h5, rfl⟩) h6
    · rename_i b t c u d v e
      obtain ⟨x, dx, p, h0, h1, h2, h3⟩ := run_cell m h
      obtain ⟨y, dy, q, g0, h4, h5, h6⟩ := run_cell m h3
      obtain ⟨z, dz, r, k0, h7, h8, h9⟩ := run_cell m h6
      exact fin (.tuple #[x, y, z]) _ (by simp [results, hrs _ e, h0, h1, g0, h4, k0, h7, Result.andThen, asAddr]) (by simp only [D.is, valsAll]; exact ⟨_, rfl, _, _, rfl, h2, _, _, rfl, h5, _, _, rfl, h8, rfl⟩) h9
    · exact h.elim
  rcases he with rfl | rfl <;> exact ⟨hdf, key⟩
/-- A function's contract out of its body. -/
theorem does_of {P : Program} {f : FuncId} {fn : Func} {c : Code} {ds : List D} {H : Heap} {K : D → Heap → Prop} (N : Nat) (rs : List ResultVar) (hf : P.funcs[f]? = some fn) (hname : (fn.name == "runtime.NumGoroutine") = false) (hb : fn.body = some c) (hN : fn.ntmps = N) (hrs : fn.results = rs.toArray) (hl : ds.length ≤ N)
    (h : ∀ w0 (Q : Exit → St → Prop), (∀ e s, e = .normal ∨ e = .ret → s.df = [] → retV P s rs (fun d => ∃ H', H'.le s.H ∧ K d H') → Q e s) → W ⟨P, none, N, H, w0⟩ c Q (St.init ds H)) : Does P f ds H K :=
  does_enter N hf hname hb hN hl fun w0 => h w0 _ fun _ _ he hdf hr => endQ_ret he hdf (by rw [hrs]; simpa using hr)
theorem bits_i64 : IntKind.i64.bits = 64 := rfl
theorem bits_u64 : IntKind.u64.bits = 64 := rfl
theorem bits_u32 : IntKind.u32.bits = 32 := rfl
theorem bits_u16 : IntKind.u16.bits = 16 := rfl
theorem bits_u8 : IntKind.u8.bits = 8 := rfl
theorem wrap_i64_of {x : Int} (h : -9223372036854775808 ≤ x ∧ x ≤ 9223372036854775807) : IntKind.i64.wrap x = x := by rw [IntKind.wrap_i64]; omega
theorem wrap_u64_of {x : Int} (h : 0 ≤ x ∧ x ≤ 18446744073709551615) : IntKind.u64.wrap x = x := by rw [IntKind.wrap_u64]; omega
theorem wrap_u8_mod (x : Int) : IntKind.u8.wrap x = x % 256 := by simp [IntKind.wrap, IntKind.bits, IntKind.signed]
theorem wrap_u16_mod (x : Int) : IntKind.u16.wrap x = x % 65536 := by simp [IntKind.wrap, IntKind.bits, IntKind.signed]
theorem wrap_u32_mod (x : Int) : IntKind.u32.wrap x = x % 4294967296 := by simp [IntKind.wrap, IntKind.bits, IntKind.signed]
theorem wrap_u64_mod (x : Int) : IntKind.u64.wrap x = x % 18446744073709551616 := by simp [IntKind.wrap, IntKind.bits, IntKind.signed]
theorem withH_put (s : St) (t : Option Tmp) (d : D) (H : Heap) : (s.put t d).withH H = (s.withH H).put t d := by cases t <;> rfl
theorem withH_withH (s : St) (H H' : Heap) : (s.withH H).withH H' = s.withH H' := rfl
theorem init_withH (ds : List D) (H H' : Heap) : (St.init ds H).withH H' = St.init ds H' := rfl
theorem Heap.upd_none {H : Heap} {b c : Nat} {x : HObj} : (H.upd b x) c = Option.none ↔ c ≠ b ∧ H c = Option.none := by
  by_cases h : c = b
  · subst h; simp [Heap.upd_same]
  · simp [Heap.upd_ne h, h]
theorem Heap.upd_ne' {H : Heap} {b c : Nat} {x : HObj} (h : b ≠ c) : (H.upd b x) c = H c := Heap.upd_ne (Ne.symm h)
theorem Heap.del_upd_same (H : Heap) (b : Nat) (x : HObj) : (H.upd b x).del b = H.del b := funext fun c => by
  by_cases h : c = b
  · subst h; rw [Heap.del_same, Heap.del_same]
  · rw [Heap.del_ne h, Heap.del_ne h, Heap.upd_ne h]
theorem Heap.del_upd_ne {H : Heap} {b c : Nat} {x : HObj} (h : b ≠ c) : (H.upd c x).del b = (H.del b).upd c x := funext fun k => by
  by_cases h1 : k = b
  · subst h1; rw [Heap.del_same, Heap.upd_ne h, Heap.del_same]
  · rw [Heap.del_ne h1]
    by_cases h2 : k = c
    · subst h2; rw [Heap.upd_same, Heap.upd_same]
    · rw [Heap.upd_ne h2, Heap.upd_ne h2, Heap.del_ne h1]
theorem Heap.del_none {H : Heap} {b : Nat} (h : H b = Option.none) : H.del b = H := funext fun k => by
  by_cases h1 : k = b
  · subst h1; rw [Heap.del_same, h]
  · rw [Heap.del_ne h1]
theorem Heap.upd_upd (H : Heap) (b : Nat) (x y : HObj) : (H.upd b x).upd b y = H.upd b y := funext fun k => by
  by_cases h1 : k = b
  · subst h1; rw [Heap.upd_same, Heap.upd_same]
  · rw [Heap.upd_ne h1, Heap.upd_ne h1, Heap.upd_ne h1]
theorem Heap.le_upd {H H' : Heap} (h : H.le H') (b : Nat) (x : HObj) : (H.upd b x).le (H'.upd b x) := fun c y e => by
  by_cases hc : c = b
  · subst hc; rw [Heap.upd_same] at e ⊢; exact e
  · rw [Heap.upd_ne hc] at e ⊢; exact h _ _ e
theorem Heap.le_eq {H H' : Heap} (h : H = H') : H.le H' := h ▸ Heap.le_refl H
theorem Heap.le_del {H H' : Heap} {b : Nat} (h : H.le H') (hb : H b = Option.none) : H.le (H'.del b) := fun c y e => by
  by_cases hc : c = b
  · subst hc; rw [hb] at e; cases e
  · rw [Heap.del_ne hc]; exact h _ _ e
theorem bD_of {x : Int} {c : UInt8} (h : x = (c.toNat : Int)) : [D.val (.int .u8 x)] = bD c := by rw [h]; rfl
end Go.Proofs.Ytdcnpkpibbefhaa
