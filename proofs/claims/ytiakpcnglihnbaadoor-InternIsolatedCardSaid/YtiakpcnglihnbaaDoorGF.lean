/- Lemmas and contracts of functions, several texts in one: VarGet VarGet2 VZM V1 VD. -/
import Derived.Test.YtiakpcnglihnbaaDoorGE
import Derived.Test.YtiakpcnglihnbaaDoorGA
import Derived.Test.YtiakpcnglihnbaaDoorGB
import Derived.Test.YtiakpcnglihnbaaDoorGC
/- The walk of varint.Get. -/
namespace Go.Proofs.YtiakpcnglihnbaaDoor
open Go.RowKit Go.Shelf
attribute [local go_sem] Oper.semAt_some
/-- The cells of the results. -/
def Res (h : Nat) (W : World) (x y z : Int) : Prop := W.cell? ⟨h + 1, 0, none⟩ = some (.int .u64 x) ∧ W.cell? ⟨h + 2, 0, none⟩ = some (.int .i64 y) ∧ W.cell? ⟨h + 3, 0, none⟩ = some (.int .i64 z)
def Froz (h : Nat) (W : World) : Prop := W.frozen? ⟨h + 1, 0, none⟩ = false ∧ W.frozen? ⟨h + 2, 0, none⟩ = false ∧ W.frozen? ⟨h + 3, 0, none⟩ = false ∧ W.frozen? ⟨h + 4, 0, none⟩ = false
theorem cell_far {W : World} {p q : Nat} {v : Value} (h : p ≠ q) : (W.setCell ⟨p, 0, none⟩ v).cell? ⟨q, 0, none⟩ = W.cell? ⟨q, 0, none⟩ := World.cell?_setCell_other _ _ _ _ (fun e => h (by injection e))
theorem cell_past {W : World} {o : Obj} {q : Nat} {x : Option Value} (h : q < W.heap.size) (hx : W.cell? ⟨q, 0, none⟩ = x) : (W.alloc o).cell? ⟨q, 0, none⟩ = x := (World.cell?_alloc_past _ _ _ h).trans hx
theorem froz_past {W : World} {o : Obj} {q : Nat} {x : Bool} (h : q < W.heap.size) (hx : W.frozen? ⟨q, 0, none⟩ = x) : (W.alloc o).frozen? ⟨q, 0, none⟩ = x := (World.frozen?_alloc_past _ _ _ h).trans hx
theorem cell_at {W : World} {v : Value} {t : TypeId} {q : Nat} (h : q = W.heap.size) : (W.alloc (.cells #[v] t)).cell? ⟨q, 0, none⟩ = some v := (World.cell?_alloc_at _ _ _ _ h).trans rfl
theorem froz_at {W : World} {v : Value} {t : TypeId} {q : Nat} (h : q = W.heap.size) : (W.alloc (.cells #[v] t)).frozen? ⟨q, 0, none⟩ = false := World.frozen?_alloc_at _ _ _ _ h
/-- Six fresh blocks. -/
theorem six (w : World) (v0 v1 v2 v3 v4 v5 : Value) (t0 t1 t2 t3 t4 t5 : TypeId) (W : World) (hW : W = (((((w.alloc (.cells #[v0] t0)).alloc (.cells #[v1] t1)).alloc (.cells #[v2] t2)).alloc (.cells #[v3] t3)).alloc (.cells #[v4] t4)).alloc (.cells #[v5] t5)) :
    W.heap.size = w.heap.size + 6 ∧ Below w.heap.size w W ∧ W.cell? ⟨w.heap.size, 0, none⟩ = some v0 ∧ W.cell? ⟨w.heap.size + 1, 0, none⟩ = some v1 ∧ W.cell? ⟨w.heap.size + 2, 0, none⟩ = some v2 ∧ W.cell? ⟨w.heap.size + 3, 0, none⟩ = some v3 ∧ W.cell? ⟨w.heap.size + 4, 0, none⟩ = some v4 ∧ W.cell? ⟨w.heap.size + 5, 0, none⟩ = some v5 ∧ Froz w.heap.size W := by
  subst hW
  have s1 := World.size_alloc w (.cells #[v0] t0)
  have b1 : Below w.heap.size w (w.alloc (.cells #[v0] t0)) := (Below.refl _ w).alloc (Nat.le_refl _) _
  have c0 : (w.alloc (.cells #[v0] t0)).cell? ⟨w.heap.size, 0, none⟩ = some v0 := cell_at rfl
  generalize w.alloc (.cells #[v0] t0) = W1 at *
  have s2 := World.size_alloc W1 (.cells #[v1] t1)
  have b2 := b1.alloc (B := w.heap.size) (by omega) (.cells #[v1] t1)
  replace c0 := cell_past (o := .cells #[v1] t1) (by omega) c0
  have c1 : (W1.alloc (.cells #[v1] t1)).cell? ⟨w.heap.size + 1, 0, none⟩ = some v1 := cell_at (by omega)
  have f1 : (W1.alloc (.cells #[v1] t1)).frozen? ⟨w.heap.size + 1, 0, none⟩ = false := froz_at (by omega)
  generalize W1.alloc (.cells #[v1] t1) = W2 at *
  have s3 := World.size_alloc W2 (.cells #[v2] t2)
  have b3 := b2.alloc (B := w.heap.size) (by omega) (.cells #[v2] t2)
  replace c0 := cell_past (o := .cells #[v2] t2) (by omega) c0
  replace c1 := cell_past (o := .cells #[v2] t2) (by omega) c1
  replace f1 := froz_past (o := .cells #[v2] t2) (by omega) f1
  have c2 : (W2.alloc (.cells #[v2] t2)).cell? ⟨w.heap.size + 2, 0, none⟩ = some v2 := cell_at (by omega)
  have f2 : (W2.alloc (.cells #[v2] t2)).frozen? ⟨w.heap.size + 2, 0, none⟩ = false := froz_at (by omega)
  generalize W2.alloc (.cells #[v2] t2) = W3 at *
  have s4 := World.size_alloc W3 (.cells #[v3] t3)
  have b4 := b3.alloc (B := w.heap.size) (by omega) (.cells #[v3] t3)
  replace c0 := cell_past (o := .cells #[v3] t3) (by omega) c0
  replace c1 := cell_past (o := .cells #[v3] t3) (by omega) c1
  replace c2 := cell_past (o := .cells #[v3] t3) (by omega) c2
  replace f1 := froz_past (o := .cells #[v3] t3) (by omega) f1
  replace f2 := froz_past (o := .cells #[v3] t3) (by omega) f2
  have c3 : (W3.alloc (.cells #[v3] t3)).cell? ⟨w.heap.size + 3, 0, none⟩ = some v3 := cell_at (by omega)
  have f3 : (W3.alloc (.cells #[v3] t3)).frozen? ⟨w.heap.size + 3, 0, none⟩ = false := froz_at (by omega)
  generalize W3.alloc (.cells #[v3] t3) = W4 at *
  have s5 := World.size_alloc W4 (.cells #[v4] t4)
  have b5 := b4.alloc (B := w.heap.size) (by omega) (.cells #[v4] t4)
  have c4 : (W4.alloc (.cells #[v4] t4)).cell? ⟨w.heap.size + 4, 0, none⟩ = some v4 := cell_at (by omega)
  have f4 : (W4.alloc (.cells #[v4] t4)).frozen? ⟨w.heap.size + 4, 0, none⟩ = false := froz_at (by omega)
  have s6 := World.size_alloc (W4.alloc (.cells #[v4] t4)) (.cells #[v5] t5)
  exact ⟨by omega, b5.alloc (by omega) _, cell_past (by omega) (cell_past (by omega) c0), cell_past (by omega) (cell_past (by omega) c1), cell_past (by omega) (cell_past (by omega) c2), cell_past (by omega) (cell_past (by omega) c3), cell_past (by omega) c4, cell_at (by omega),
    froz_past (by omega) (froz_past (by omega) f1), froz_past (by omega) (froz_past (by omega) f2), froz_past (by omega) (froz_past (by omega) f3), froz_past (by omega) f4⟩
theorem wrap_i64 (x : Int) (h : -9223372036854775808 ≤ x ∧ x ≤ 9223372036854775807) : IntKind.i64.wrap x = x := by
  simp only [IntKind.wrap, IntKind.bits, IntKind.signed]
  simp
  omega
theorem keeps3 (W : World) (p q r : Addr) (a b c : Value) : KeepsOthers W (((W.setCell p a).setCell q b).setCell r c) := ((KeepsOthers.setCell _ _ _).trans (KeepsOthers.setCell _ _ _)).trans (KeepsOthers.setCell _ _ _)
theorem below3 {h : Nat} {w W : World} (hB : Below h w W) (p q r : Addr) (a b c : Value) (h1 : h ≤ p.block) (h2 : h ≤ q.block) (h3 : h ≤ r.block) : Below h w (((W.setCell p a).setCell q b).setCell r c) := ((hB.setCell h1 _).setCell h2 _).setCell h3 _
theorem res3_set {h : Nat} {W : World} {x y z x' y' z' : Int} (hr : Res h W x y z) : Res h (((W.setCell ⟨h + 1, 0, none⟩ (.int .u64 x')).setCell ⟨h + 2, 0, none⟩ (.int .i64 y')).setCell ⟨h + 3, 0, none⟩ (.int .i64 z')) x' y' z' := by
  obtain ⟨h1, h2, h3⟩ := hr
  have e1 : (W.setCell ⟨h + 1, 0, none⟩ (.int .u64 x')).cell? ⟨h + 2, 0, none⟩ = some (.int .i64 y) := (cell_far (by omega)).trans h2
  have e2 : ((W.setCell ⟨h + 1, 0, none⟩ (.int .u64 x')).setCell ⟨h + 2, 0, none⟩ (.int .i64 y')).cell? ⟨h + 3, 0, none⟩ = some (.int .i64 z) := (cell_far (by omega)).trans ((cell_far (by omega)).trans h3)
  exact ⟨(cell_far (by omega)).trans ((cell_far (by omega)).trans (World.cell?_setCell_same _ _ _ (h1))), (cell_far (by omega)).trans (World.cell?_setCell_same _ _ _ (e1)), World.cell?_setCell_same _ _ _ (e2)⟩
theorem res_n {h : Nat} {W : World} {x y z : Int} {v : Value} (hr : Res h W x y z) : Res h (W.setCell ⟨h + 4, 0, none⟩ v).drew x y z := by
  obtain ⟨h1, h2, h3⟩ := hr
  exact ⟨(cell_far (by omega)).trans h1, (cell_far (by omega)).trans h2, (cell_far (by omega)).trans h3⟩
theorem froz_n {h : Nat} {W : World} {v : Value} (hr : Froz h W) : Froz h (W.setCell ⟨h + 4, 0, none⟩ v).drew := by
  obtain ⟨h1, h2, h3, h4⟩ := hr
  exact ⟨(World.frozen?_setCell _ _ _ _).trans h1, (World.frozen?_setCell _ _ _ _).trans h2, (World.frozen?_setCell _ _ _ _).trans h3, (World.frozen?_setCell _ _ _ _).trans h4⟩
theorem res_drew {h : Nat} {W : World} {x y z : Int} (hr : Res h W x y z) : Res h W.drew x y z := hr
set_option maxHeartbeats 8000000 in
set_option maxRecDepth 20000 in
theorem get_in1 (F : Fence) (n : Nat) (hF1 : F.fn 63) (hF2 : F.fn 83) (hF3 : F.fn 95) (hro : F.round = none) (hn : 3 ≤ n) (w : World) (B b o cap : Nat) (l : List UInt8) (a : Nat) (hR : Rd w B (some ⟨b, o, none⟩) (bv l)) (hB : B ≤ w.heap.size) (hl : l.length ≤ 281474976706560) (hlc : l.length ≤ cap) (hlt : a < l.length) :
    CallsIn F n Tryd.prog 63 #[.slice (some ⟨b, o, none⟩) l.length cap, .int .i64 ((a : Int) : Int)] w fun e w' => e = .returned (res3 (getR l (a : Int)).1 (getR l (a : Int)).2.1 (getR l (a : Int)).2.2) ∧ Below w.heap.size w w' := by
  have h1 : 1 ≤ n := by omega
  have hd1 : ¬ l.length < a := by omega
  have hd2 : ¬ ((a : Nat) : Int) < 0 := by omega
  have hca : ¬ (cap = a) := by omega
  obtain ⟨bs, hbs⟩ : ∃ bs, l.drop a = bs := ⟨_, rfl⟩
  have hbl : bs.length = l.length - a := by rw [← hbs, List.length_drop]
  have hbR : Rd w w.heap.size (some ⟨b, o + a, none⟩) (bv bs) := by
    intro j u hu
    have hu' : (bv l)[a + j]? = some u := by
      rw [← hbs] at hu
      simpa [bv, List.getElem?_drop] using hu
    obtain ⟨b', o', e, hb', hc⟩ := hR _ _ hu'
    cases e
    exact ⟨b, o + a, rfl, by omega, by rw [Nat.add_assoc]; exact hc⟩
  refine callsIn_of_wp_marks Tryd.func63 rfl hF1 ?_ hro
  simp only [Tryd.ntmps63, List.size_toArray, List.length_cons, List.length_nil, Nat.reduceAdd, Nat.reduceSub, Array.replicate_succ, Array.replicate_zero, List.push_toArray, List.append_toArray, List.nil_append, List.cons_append]
  gi_wp2_with (gi_at_call 83; refine (groups_in F (n - 1) hF2 hro _ _ _ _).mono ?_; rintro e w' ⟨rfl, rfl⟩)
  obtain ⟨Ws, hWs⟩ : ∃ Ws, Ws = ((((((w.alloc (.cells #[.int .i64 ((a : Int) : Int)] 3)).alloc (.cells #[.int .u64 0] 57)).alloc (.cells #[.int .i64 0] 3)).alloc (.cells #[.int .i64 0] 27)).alloc (.cells #[.int .u64 0] 57)).alloc (.cells #[.slice (some ⟨b, o + a, none⟩) (l.length - a) (cap - a)] 41)) := ⟨_, rfl⟩
  rw [← hWs]
  obtain ⟨hsz, hB0, hc0, hcr1, hcr2, hcr3, hcn, hcs, hfr⟩ := six _ _ _ _ _ _ _ _ _ _ _ _ _ _ hWs
  have hcr : Res w.heap.size Ws 0 0 0 := ⟨hcr1, hcr2, hcr3⟩
  clear hcr1 hcr2 hcr3
  clear hWs
  refine wpIn_rangeFunc_ownG hro h1 (gf := 95) (lb := #[.pointer (some ⟨w.heap.size + 5, 0, none⟩)]) rfl hF3 (enters_of Tryd.func95 (by kernel_rfl) rfl)
    (groups_stops (fun p : Ent => #[.int .i64 (p.k : Int), .int .u8 (p.c.toNat : Int)]) (ent bs) F (n - 1) hF3 hro (by omega) (w.heap.size + 5) w.heap.size _ _ bs (by omega) Ws (by omega) (by omega) (fun j hj => by simp [ent]; omega) (by rw [hbl]; exact hcs) (hbR.below hB0 (Nat.le_refl _))) belowK_t (belowK_b (by omega)) (Below.refl _ _) (fun _ => rfl)
    (fun pre W => ((∀ p ∈ pre, p.goes) ∧ W.cell? ⟨w.heap.size, 0, none⟩ = some (.int .i64 ((a : Int) : Int)) ∧ Res w.heap.size W 0 0 0 ∧ Froz w.heap.size W ∧ W.cell? ⟨w.heap.size + 4, 0, none⟩ = some (.int .u64 (accG pre))) ∧ Below w.heap.size w W)
    (fun c pre W => (c = .ret ∧ ∃ ini last, pre = ini ++ [last] ∧ (∀ p ∈ ini, p.goes) ∧ ∃ x y z, Ends a (accG ini) last x y z ∧ Res w.heap.size W x y z) ∧ Below w.heap.size w W)
    ?hI ?hIx ⟨⟨by simp, hc0, hcr, hfr, hcn⟩, hB0⟩ (fun x => { tmps := #[.slice (some ⟨b, o, none⟩) l.length cap, .int .i64 ((a : Int) : Int), undef, .pointer (some ⟨w.heap.size, 0, none⟩), .pointer (some ⟨w.heap.size + 1, 0, none⟩), .pointer (some ⟨w.heap.size + 1 + 1, 0, none⟩), .pointer (some ⟨w.heap.size + 1 + 1 + 1, 0, none⟩), .pointer (some ⟨w.heap.size + 1 + 1 + 1 + 1, 0, none⟩), .int .i64 (x.k : Int), .int .u8 (x.c.toNat : Int), .int .i64 ((a : Int) : Int), .bool false, .bool false, .int .i64 ((a : Int) : Int), .slice (some ⟨b, o, none⟩) l.length cap, .int .i64 (l.length : Int), .bool false, .bool false, .slice (some ⟨b, o, none⟩) l.length cap, .int .i64 ((a : Int) : Int), .slice (some ⟨b, o + a, none⟩) (l.length - a) (cap - a), .func (.func 95) #[] #[.pointer (some ⟨w.heap.size + 1 + 1 + 1 + 1 + 1, 0, none⟩)], .int .i64 (x.k : Int), .int .u8 (x.c.toNat : Int), undef, undef, undef, undef, undef, undef, undef, undef, undef, undef, undef, undef, undef, undef, undef, undef, undef, undef, undef, undef, undef, undef, undef, undef, undef, undef, undef, undef, undef], defers := [] }) ?assign ?body ?done ?stop
  case hI =>
    refine OwnFrom.and (Own.from (fun s A B row hs hg hr => ?_) _) (ownFrom_below (Nat.le_refl _) (by omega))
    obtain ⟨h1, h2, ⟨h3, h4, h5⟩, ⟨h6, h7, h8, h9⟩, h10⟩ := hs
    exact ⟨h1, cell_kept h2 hg hr, ⟨cell_kept h3 hg hr, cell_kept h4 hg hr, cell_kept h5 hg hr⟩, ⟨(frozen_kept h3 hg hr).trans h6, (frozen_kept h4 hg hr).trans h7, (frozen_kept h5 hg hr).trans h8, (frozen_kept h10 hg hr).trans h9⟩, cell_kept h10 hg hr⟩
  case hIx =>
    intro c
    refine OwnFrom.and (Own.from (fun s A B row hs hg hr => ?_) _) (ownFrom_below (Nat.le_refl _) (by omega))
    obtain ⟨hc, ini, last, e1, e2, x, y, z, he, h3, h4, h5⟩ := hs
    exact ⟨hc, ini, last, e1, e2, x, y, z, he, cell_kept h3 hg hr, cell_kept h4 hg hr, cell_kept h5 hg hr⟩
  case assign =>
    intro l x W K hK
    gi_wp2
    exact hK
  case body =>
    rintro l0 pre x W ⟨⟨hp, hca, hcr, hfr, hcn⟩, hB⟩ _
    have hrr := hcr
    obtain ⟨hcr1, hcr2, hcr3⟩ := hcr
    have hff := hfr
    obtain ⟨hfr1, hfr2, hfr3, hfr4⟩ := hfr
    have hmx : Tryd.prog.follows .mixedOrders = true := by kernel_rfl
    have hd : 1 ≤ n - 1 - 1 := by omega
    have f7 : bits .and .u8 0 127 = 0 := by decide
    have f8 : IntKind.u64.wrap 0 = 0 := by decide
    have hw63 : IntKind.i64.wrap 63 = 63 := by decide
    obtain ⟨m, hm⟩ : ∃ m, m = x.c.toNat % 128 := ⟨_, rfl⟩
    obtain ⟨xk, xc, xh⟩ := x
    dsimp only at hm ⊢
    have f1 := and127 xc
    have f2 := u64_m xc.toNat
    have f3 := shl_shv xk xc.toNat
    have f6 : IntKind.u64.wrap (((xc.toNat % 128 : Nat) : Int) * 9223372036854775808) = shv 9 xc.toNat := shl_shv 9 xc.toNat
    rw [← hm] at f1 f2 f3 f6
    have f4 : IntKind.i64.wrap (7 * (xk : Int)) = 7 * (xk : Int) := wrap_i64 _ (by omega)
    have f5 : (0 : Int) ≤ 7 * (xk : Int) := by omega
    have Hm := Lib.hid hm
    clear hm
    gi_wp2
    · exact ⟨(keeps3 _ _ _ _ _ _ _).from _, ⟨rfl, pre, ⟨xk, xc, xh⟩, rfl, hp, 0, 0, 6, .inl ⟨⟨(show xk = 9 by omega), (show 1 < xc.toNat by omega)⟩, rfl, rfl, rfl⟩, res3_set hrr⟩, below3 hB _ _ _ _ _ _ (by simp <;> omega) (by simp <;> omega) (by simp <;> omega)⟩
    · exact ⟨(keeps3 _ _ _ _ _ _ _).from _, ⟨rfl, pre, ⟨xk, xc, xh⟩, rfl, hp, 0, 0, 5, .inr (.inl ⟨fun e => (by have h1 := e.1; have h2 := e.2; dsimp only at h1 h2; omega), ⟨(show xc.toNat = 0 by omega), (show 0 < xk by omega)⟩, rfl, rfl, rfl⟩), res3_set hrr⟩, below3 hB _ _ _ _ _ _ (by simp <;> omega) (by simp <;> omega) (by simp <;> omega)⟩
    · refine in_still_tail 8 hmx (by kernel_rfl) (by kernel_rfl) ?_
      simp only [List.take_succ_cons, List.take_zero, List.drop_succ_cons, List.drop_zero]
      repeat still_step
      refine wpStill_nil ?_
      go_wp2
      refine ⟨rfl, ?_⟩
      gi_wp2
      have q1 := res_n (v := .int .u64 (bits .or .u64 (accG pre) (shv 9 xc.toNat))) hrr
      have q2 := froz_n (v := .int .u64 (bits .or .u64 (accG pre) (shv 9 xc.toNat))) hff
      refine get_reg13 (W := (W.setCell ⟨w.heap.size + 4, 0, none⟩ (.int .u64 (bits .or .u64 (accG pre) (shv 9 xc.toNat)))).drew) (h := w.heap.size) (k := 9) (a := (a : Int)) (v := bits .or .u64 (accG pre) (shv 9 xc.toNat)) (by kernel_rfl) ((cell_far (show w.heap.size + 4 ≠ w.heap.size by omega)).trans hca) (World.cell?_setCell_same _ _ _ (hcn)) q1.1 q1.2.1 q1.2.2 q2.1 q2.2.1 q2.2.2.1 (wrap_i64 _ (by omega)) (wrap_i64 _ (by omega)) (fun a' => ?_)
      gi_wp2
      exact ⟨((((KeepsOthers.setCell _ _ _).trans (KeepsOthers.drew _)).trans (KeepsOthers.drew _)).trans (keeps3 _ _ _ _ _ _ _)).from _, ⟨rfl, pre, ⟨xk, xc, xh⟩, rfl, hp, _, _, _, .inr (.inr ⟨fun e => (by have h1 := e.1; have h2 := e.2; dsimp only at h1 h2; omega), fun e => (by have h1 := e.1; have h2 := e.2; dsimp only at h1 h2; omega), (show xc.toNat < 128 by omega), (by have e9 : xk = 9 := (by omega); subst e9; rfl), (by have e8 : (xk : Int) = 9 := (by omega); rw [e8]), rfl⟩), res3_set (res_drew q1)⟩, below3 (((hB.setCell (p := ⟨w.heap.size + 4, 0, none⟩) (by simp) _).drew).drew) _ _ _ _ _ _ (by simp <;> omega) (by simp <;> omega) (by simp <;> omega)⟩
    · exact ⟨(keeps3 _ _ _ _ _ _ _).from _, ⟨rfl, pre, ⟨xk, xc, xh⟩, rfl, hp, 0, 0, 5, .inr (.inl ⟨fun e => (by have h1 := e.1; have h2 := e.2; dsimp only at h1 h2; omega), ⟨(show xc.toNat = 0 by omega), (show 0 < xk by omega)⟩, rfl, rfl, rfl⟩), res3_set hrr⟩, below3 hB _ _ _ _ _ _ (by simp <;> omega) (by simp <;> omega) (by simp <;> omega)⟩
    · refine in_still_tail 8 hmx (by kernel_rfl) (by kernel_rfl) ?_
      simp only [List.take_succ_cons, List.take_zero, List.drop_succ_cons, List.drop_zero]
      repeat still_step
      refine wpStill_nil ?_
      go_wp2
      refine ⟨rfl, ?_⟩
      gi_wp2
      have q1 := res_n (v := .int .u64 (bits .or .u64 (accG pre) 0)) hrr
      have q2 := froz_n (v := .int .u64 (bits .or .u64 (accG pre) 0)) hff
      refine get_reg13 (W := (W.setCell ⟨w.heap.size + 4, 0, none⟩ (.int .u64 (bits .or .u64 (accG pre) 0))).drew) (h := w.heap.size) (k := (xk : Int)) (a := (a : Int)) (v := bits .or .u64 (accG pre) 0) (by kernel_rfl) ((cell_far (show w.heap.size + 4 ≠ w.heap.size by omega)).trans hca) (World.cell?_setCell_same _ _ _ (hcn)) q1.1 q1.2.1 q1.2.2 q2.1 q2.2.1 q2.2.2.1 (wrap_i64 _ (by omega)) (wrap_i64 _ (by omega)) (fun a' => ?_)
      gi_wp2
      exact ⟨((((KeepsOthers.setCell _ _ _).trans (KeepsOthers.drew _)).trans (KeepsOthers.drew _)).trans (keeps3 _ _ _ _ _ _ _)).from _, ⟨rfl, pre, ⟨xk, xc, xh⟩, rfl, hp, _, _, _, .inr (.inr ⟨fun e => (by have h1 := e.1; have h2 := e.2; dsimp only at h1 h2; omega), fun e => (by have h1 := e.1; have h2 := e.2; dsimp only at h1 h2; omega), (show xc.toNat < 128 by omega), (by have e9 : xc.toNat = 0 := (by assumption); unfold accS shv; dsimp only; rw [e9]; simp), (by have e8 : (xk : Int) = (xk : Int) := (by omega); rw [e8]), rfl⟩), res3_set (res_drew q1)⟩, below3 (((hB.setCell (p := ⟨w.heap.size + 4, 0, none⟩) (by simp) _).drew).drew) _ _ _ _ _ _ (by simp <;> omega) (by simp <;> omega) (by simp <;> omega)⟩
    · refine in_still_tail 8 hmx (by kernel_rfl) (by kernel_rfl) ?_
      simp only [List.take_succ_cons, List.take_zero, List.drop_succ_cons, List.drop_zero]
      repeat still_step
      refine wpStill_nil ?_
      go_wp2
      refine ⟨rfl, ?_⟩
      gi_wp2
      · have q1 := res_n (v := .int .u64 (bits .or .u64 (accG pre) (shv xk xc.toNat))) hrr
        have q2 := froz_n (v := .int .u64 (bits .or .u64 (accG pre) (shv xk xc.toNat))) hff
        refine get_reg13 (W := (W.setCell ⟨w.heap.size + 4, 0, none⟩ (.int .u64 (bits .or .u64 (accG pre) (shv xk xc.toNat)))).drew) (h := w.heap.size) (k := (xk : Int)) (a := (a : Int)) (v := bits .or .u64 (accG pre) (shv xk xc.toNat)) (by kernel_rfl) ((cell_far (show w.heap.size + 4 ≠ w.heap.size by omega)).trans hca) (World.cell?_setCell_same _ _ _ (hcn)) q1.1 q1.2.1 q1.2.2 q2.1 q2.2.1 q2.2.2.1 (wrap_i64 _ (by omega)) (wrap_i64 _ (by omega)) (fun a' => ?_)
        gi_wp2
        exact ⟨((((KeepsOthers.setCell _ _ _).trans (KeepsOthers.drew _)).trans (KeepsOthers.drew _)).trans (keeps3 _ _ _ _ _ _ _)).from _, ⟨rfl, pre, ⟨xk, xc, xh⟩, rfl, hp, _, _, _, .inr (.inr ⟨fun e => (by have h1 := e.1; have h2 := e.2; dsimp only at h1 h2; omega), fun e => (by have h1 := e.1; have h2 := e.2; dsimp only at h1 h2; omega), (show xc.toNat < 128 by omega), (rfl), (by have e8 : (xk : Int) = (xk : Int) := (by omega); rw [e8]), rfl⟩), res3_set (res_drew q1)⟩, below3 (((hB.setCell (p := ⟨w.heap.size + 4, 0, none⟩) (by simp) _).drew).drew) _ _ _ _ _ _ (by simp <;> omega) (by simp <;> omega) (by simp <;> omega)⟩
      · have q1 := res_n (v := .int .u64 (bits .or .u64 (accG pre) (shv xk xc.toNat))) hrr
        have q2 := froz_n (v := .int .u64 (bits .or .u64 (accG pre) (shv xk xc.toNat))) hff
        exact ⟨((KeepsOthers.setCell _ _ _).trans (KeepsOthers.drew _)).from _, ((Below.refl _ W).setCell (p := ⟨w.heap.size + 4, 0, none⟩) (by simp) _).drew, ⟨fun p hp' => (List.mem_append.1 hp').elim (hp p) (fun e => by
          simp at e; subst e
          exact ⟨fun e => (by have h1 := e.1; have h2 := e.2; dsimp only at h1 h2; omega), fun e => (by have h1 := e.1; have h2 := e.2; dsimp only at h1 h2; omega), (show 128 ≤ xc.toNat by omega)⟩), (cell_far (show w.heap.size + 4 ≠ w.heap.size by omega)).trans hca, q1, q2, (by rw [accG_snoc]; exact World.cell?_setCell_same _ _ _ (hcn))⟩, (hB.setCell (p := ⟨w.heap.size + 4, 0, none⟩) (by simp) _).drew⟩
    all_goals go_goals
  case done =>
    rintro D ys W hD hS ⟨⟨hp, hca, hcr, hfr, hcn⟩, hB⟩ hK
    have hg := get_done l a bs hbs (by omega) ys hS hp
    have hr3 := hcr
    obtain ⟨hcr1, hcr2, hcr3⟩ := hcr
    obtain ⟨hfr1, hfr2, hfr3, hfr4⟩ := hfr
    gi_wp2
    have hK' := (keeps3 W ⟨w.heap.size + 1, 0, none⟩ ⟨w.heap.size + 2, 0, none⟩ ⟨w.heap.size + 3, 0, none⟩ (.int .u64 0) (.int .i64 0) (.int .i64 4)).same D _ hK rfl
    have hr4 := res3_set (x' := 0) (y' := 0) (z' := 4) hr3
    have hB4 := below3 hB ⟨w.heap.size + 1, 0, none⟩ ⟨w.heap.size + 2, 0, none⟩ ⟨w.heap.size + 3, 0, none⟩ (.int .u64 0) (.int .i64 0) (.int .i64 4) (by simp <;> omega) (by simp <;> omega) (by simp <;> omega)
    refine ⟨by simp, .inl ⟨_, _, rfl, run_takeDeferred hK', ?_⟩⟩
    obtain ⟨c1, c2, c3⟩ := hr4
    have d1 := cell_kept c1 (grownBy_putObj' _ D (.deferred none)) (fun r e => by cases e; exact ⟨_, hK', rfl⟩)
    have d2 := cell_kept c2 (grownBy_putObj' _ D (.deferred none)) (fun r e => by cases e; exact ⟨_, hK', rfl⟩)
    have d3 := cell_kept c3 (grownBy_putObj' _ D (.deferred none)) (fun r e => by cases e; exact ⟨_, hK', rfl⟩)
    refine ⟨res3 0 0 4, ?_, (by rw [hg]), hB4.trans (belowK_b (w := w) (Nat.le_refl _) _ D _ _ (by omega) hK' rfl rfl)⟩
    simp [results, Tryd.f63, go_sem, d1, d2, d3, res3]
  case stop =>
    rintro D c pre W hD hS ⟨⟨rfl, ini, last, e1, e2, x, y, z, he, hcr⟩, hB⟩ hK
    have hg := get_stop l a bs hbs (by omega) pre hS ini last e1 e2 x y z he
    gi_wp2
    obtain ⟨c1, c2, c3⟩ := hcr
    refine ⟨by simp, .inl ⟨_, _, rfl, run_takeDeferred hK, ?_⟩⟩
    have d1 := cell_kept c1 (grownBy_putObj' _ D (.deferred none)) (fun r e => by cases e; exact ⟨_, hK, rfl⟩)
    have d2 := cell_kept c2 (grownBy_putObj' _ D (.deferred none)) (fun r e => by cases e; exact ⟨_, hK, rfl⟩)
    have d3 := cell_kept c3 (grownBy_putObj' _ D (.deferred none)) (fun r e => by cases e; exact ⟨_, hK, rfl⟩)
    refine ⟨.tuple #[.int .u64 x, .int .i64 y, .int .i64 z], ?_, ?_, hB.trans (belowK_b (w := w) (Nat.le_refl _) W D _ _ (by omega) hK rfl rfl)⟩
    · simp [results, Tryd.f63, go_sem, d1, d2, d3]
    · rw [← hg.1, ← hg.2.1, ← hg.2.2]; rfl
set_option maxHeartbeats 8000000 in
set_option maxRecDepth 20000 in
theorem get_in2 (F : Fence) (n : Nat) (hF1 : F.fn 63) (hF2 : F.fn 83) (hF3 : F.fn 95) (hro : F.round = none) (hn : 3 ≤ n) (w : World) (A : Option Addr) (l : List UInt8) (hl : l.length ≤ 281474976706560) :
    CallsIn F n Tryd.prog 63 #[.slice A l.length l.length, .int .i64 ((l.length : Int) : Int)] w fun e w' => e = .returned (res3 (getR l (l.length : Int)).1 (getR l (l.length : Int)).2.1 (getR l (l.length : Int)).2.2) ∧ Below w.heap.size w w' := by
  have h1 : 1 ≤ n := by omega
  have hd1 : ¬ l.length < l.length := by omega
  have hd2 : ¬ ((l.length : Nat) : Int) < 0 := by omega
  obtain ⟨bs, hbs⟩ : ∃ bs, l.drop l.length = bs := ⟨_, rfl⟩
  have hb0 : bs = [] := by rw [← hbs, List.drop_length]
  have hbl : bs.length = 0 := by rw [hb0]; rfl
  have hbR : ∀ A', Rd w w.heap.size A' (bv bs) := by
    intro A' j u hu
    rw [hb0] at hu
    cases hu
  refine callsIn_of_wp_marks Tryd.func63 rfl hF1 ?_ hro
  simp only [Tryd.ntmps63, List.size_toArray, List.length_cons, List.length_nil, Nat.reduceAdd, Nat.reduceSub, Array.replicate_succ, Array.replicate_zero, List.push_toArray, List.append_toArray, List.nil_append, List.cons_append]
  gi_wp2_with (gi_at_call 83; refine (groups_in F (n - 1) hF2 hro _ _ _ _).mono ?_; rintro e w' ⟨rfl, rfl⟩)
  obtain ⟨Ws, hWs⟩ : ∃ Ws, Ws = ((((((w.alloc (.cells #[.int .i64 ((l.length : Int) : Int)] 3)).alloc (.cells #[.int .u64 0] 57)).alloc (.cells #[.int .i64 0] 3)).alloc (.cells #[.int .i64 0] 27)).alloc (.cells #[.int .u64 0] 57)).alloc (.cells #[.slice A 0 0] 41)) := ⟨_, rfl⟩
  rw [← hWs]
  obtain ⟨hsz, hB0, hc0, hcr1, hcr2, hcr3, hcn, hcs, hfr⟩ := six _ _ _ _ _ _ _ _ _ _ _ _ _ _ hWs
  have hcr : Res w.heap.size Ws 0 0 0 := ⟨hcr1, hcr2, hcr3⟩
  clear hcr1 hcr2 hcr3
  clear hWs
  refine wpIn_rangeFunc_ownG hro h1 (gf := 95) (lb := #[.pointer (some ⟨w.heap.size + 5, 0, none⟩)]) rfl hF3 (enters_of Tryd.func95 (by kernel_rfl) rfl)
    (groups_stops (fun p : Ent => #[.int .i64 (p.k : Int), .int .u8 (p.c.toNat : Int)]) (ent bs) F (n - 1) hF3 hro (by omega) (w.heap.size + 5) w.heap.size _ _ bs (by omega) Ws (by omega) (by omega) (fun j hj => by simp [ent]; omega) (by rw [hbl]; exact hcs) ((hbR _).below hB0 (Nat.le_refl _))) belowK_t (belowK_b (by omega)) (Below.refl _ _) (fun _ => rfl)
    (fun pre W => ((∀ p ∈ pre, p.goes) ∧ W.cell? ⟨w.heap.size, 0, none⟩ = some (.int .i64 ((l.length : Int) : Int)) ∧ Res w.heap.size W 0 0 0 ∧ Froz w.heap.size W ∧ W.cell? ⟨w.heap.size + 4, 0, none⟩ = some (.int .u64 (accG pre))) ∧ Below w.heap.size w W)
    (fun c pre W => (c = .ret ∧ ∃ ini last, pre = ini ++ [last] ∧ (∀ p ∈ ini, p.goes) ∧ ∃ x y z, Ends l.length (accG ini) last x y z ∧ Res w.heap.size W x y z) ∧ Below w.heap.size w W)
    ?hI ?hIx ⟨⟨by simp, hc0, hcr, hfr, hcn⟩, hB0⟩ (fun x => { tmps := #[.slice A l.length l.length, .int .i64 ((l.length : Int) : Int), undef, .pointer (some ⟨w.heap.size, 0, none⟩), .pointer (some ⟨w.heap.size + 1, 0, none⟩), .pointer (some ⟨w.heap.size + 1 + 1, 0, none⟩), .pointer (some ⟨w.heap.size + 1 + 1 + 1, 0, none⟩), .pointer (some ⟨w.heap.size + 1 + 1 + 1 + 1, 0, none⟩), .int .i64 (x.k : Int), .int .u8 (x.c.toNat : Int), .int .i64 ((l.length : Int) : Int), .bool false, .bool false, .int .i64 ((l.length : Int) : Int), .slice A l.length l.length, .int .i64 (l.length : Int), .bool false, .bool false, .slice A l.length l.length, .int .i64 ((l.length : Int) : Int), .slice A 0 0, .func (.func 95) #[] #[.pointer (some ⟨w.heap.size + 1 + 1 + 1 + 1 + 1, 0, none⟩)], .int .i64 (x.k : Int), .int .u8 (x.c.toNat : Int), undef, undef, undef, undef, undef, undef, undef, undef, undef, undef, undef, undef, undef, undef, undef, undef, undef, undef, undef, undef, undef, undef, undef, undef, undef, undef, undef, undef, undef], defers := [] }) ?assign ?body ?done ?stop
  case hI =>
    refine OwnFrom.and (Own.from (fun s A B row hs hg hr => ?_) _) (ownFrom_below (Nat.le_refl _) (by omega))
    obtain ⟨h1, h2, ⟨h3, h4, h5⟩, ⟨h6, h7, h8, h9⟩, h10⟩ := hs
    exact ⟨h1, cell_kept h2 hg hr, ⟨cell_kept h3 hg hr, cell_kept h4 hg hr, cell_kept h5 hg hr⟩, ⟨(frozen_kept h3 hg hr).trans h6, (frozen_kept h4 hg hr).trans h7, (frozen_kept h5 hg hr).trans h8, (frozen_kept h10 hg hr).trans h9⟩, cell_kept h10 hg hr⟩
  case hIx =>
    intro c
    refine OwnFrom.and (Own.from (fun s A B row hs hg hr => ?_) _) (ownFrom_below (Nat.le_refl _) (by omega))
    obtain ⟨hc, ini, last, e1, e2, x, y, z, he, h3, h4, h5⟩ := hs
    exact ⟨hc, ini, last, e1, e2, x, y, z, he, cell_kept h3 hg hr, cell_kept h4 hg hr, cell_kept h5 hg hr⟩
  case assign =>
    intro l x W K hK
    gi_wp2
    exact hK
  case body =>
    intro l0 pre x W _ hN
    rw [hbl] at hN
    exact absurd hN (by omega)
  case done =>
    rintro D ys W hD hS ⟨⟨hp, hca, hcr, hfr, hcn⟩, hB⟩ hK
    have hg := get_done l l.length bs hbs (by omega) ys hS hp
    have hr3 := hcr
    obtain ⟨hcr1, hcr2, hcr3⟩ := hcr
    obtain ⟨hfr1, hfr2, hfr3, hfr4⟩ := hfr
    gi_wp2
    have hK' := (keeps3 W ⟨w.heap.size + 1, 0, none⟩ ⟨w.heap.size + 2, 0, none⟩ ⟨w.heap.size + 3, 0, none⟩ (.int .u64 0) (.int .i64 0) (.int .i64 4)).same D _ hK rfl
    have hr4 := res3_set (x' := 0) (y' := 0) (z' := 4) hr3
    have hB4 := below3 hB ⟨w.heap.size + 1, 0, none⟩ ⟨w.heap.size + 2, 0, none⟩ ⟨w.heap.size + 3, 0, none⟩ (.int .u64 0) (.int .i64 0) (.int .i64 4) (by simp <;> omega) (by simp <;> omega) (by simp <;> omega)
    refine ⟨by simp, .inl ⟨_, _, rfl, run_takeDeferred hK', ?_⟩⟩
    obtain ⟨c1, c2, c3⟩ := hr4
    have d1 := cell_kept c1 (grownBy_putObj' _ D (.deferred none)) (fun r e => by cases e; exact ⟨_, hK', rfl⟩)
    have d2 := cell_kept c2 (grownBy_putObj' _ D (.deferred none)) (fun r e => by cases e; exact ⟨_, hK', rfl⟩)
    have d3 := cell_kept c3 (grownBy_putObj' _ D (.deferred none)) (fun r e => by cases e; exact ⟨_, hK', rfl⟩)
    refine ⟨res3 0 0 4, ?_, (by rw [hg]), hB4.trans (belowK_b (w := w) (Nat.le_refl _) _ D _ _ (by omega) hK' rfl rfl)⟩
    simp [results, Tryd.f63, go_sem, d1, d2, d3, res3]
  case stop =>
    rintro D c pre W hD hS ⟨⟨rfl, ini, last, e1, e2, x, y, z, he, hcr⟩, hB⟩ hK
    have hg := get_stop l l.length bs hbs (by omega) pre hS ini last e1 e2 x y z he
    gi_wp2
    obtain ⟨c1, c2, c3⟩ := hcr
    refine ⟨by simp, .inl ⟨_, _, rfl, run_takeDeferred hK, ?_⟩⟩
    have d1 := cell_kept c1 (grownBy_putObj' _ D (.deferred none)) (fun r e => by cases e; exact ⟨_, hK, rfl⟩)
    have d2 := cell_kept c2 (grownBy_putObj' _ D (.deferred none)) (fun r e => by cases e; exact ⟨_, hK, rfl⟩)
    have d3 := cell_kept c3 (grownBy_putObj' _ D (.deferred none)) (fun r e => by cases e; exact ⟨_, hK, rfl⟩)
    refine ⟨.tuple #[.int .u64 x, .int .i64 y, .int .i64 z], ?_, ?_, hB.trans (belowK_b (w := w) (Nat.le_refl _) W D _ _ (by omega) hK rfl rfl)⟩
    · simp [results, Tryd.f63, go_sem, d1, d2, d3]
    · rw [← hg.1, ← hg.2.1, ← hg.2.2]; rfl
set_option maxHeartbeats 8000000 in
set_option maxRecDepth 20000 in
theorem get_in3 (F : Fence) (n : Nat) (hF1 : F.fn 63) (hF2 : F.fn 83) (hF3 : F.fn 95) (hro : F.round = none) (hn : 3 ≤ n) (w : World) (A : Option Addr) (cap : Nat) (l : List UInt8) (hl : l.length ≤ 281474976706560) (hca : ¬ cap = l.length) :
    CallsIn F n Tryd.prog 63 #[.slice A l.length cap, .int .i64 ((l.length : Int) : Int)] w fun e w' => e = .returned (res3 (getR l (l.length : Int)).1 (getR l (l.length : Int)).2.1 (getR l (l.length : Int)).2.2) ∧ Below w.heap.size w w' := by
  have h1 : 1 ≤ n := by omega
  have hd1 : ¬ l.length < l.length := by omega
  have hd2 : ¬ ((l.length : Nat) : Int) < 0 := by omega
  obtain ⟨bs, hbs⟩ : ∃ bs, l.drop l.length = bs := ⟨_, rfl⟩
  have hb0 : bs = [] := by rw [← hbs, List.drop_length]
  have hbl : bs.length = 0 := by rw [hb0]; rfl
  have hbR : ∀ A', Rd w w.heap.size A' (bv bs) := by
    intro A' j u hu
    rw [hb0] at hu
    cases hu
  refine callsIn_of_wp_marks Tryd.func63 rfl hF1 ?_ hro
  simp only [Tryd.ntmps63, List.size_toArray, List.length_cons, List.length_nil, Nat.reduceAdd, Nat.reduceSub, Array.replicate_succ, Array.replicate_zero, List.push_toArray, List.append_toArray, List.nil_append, List.cons_append]
  gi_wp2_with (gi_at_call 83; refine (groups_in F (n - 1) hF2 hro _ _ _ _).mono ?_; rintro e w' ⟨rfl, rfl⟩)
  obtain ⟨Ws, hWs⟩ : ∃ Ws, Ws = ((((((w.alloc (.cells #[.int .i64 ((l.length : Int) : Int)] 3)).alloc (.cells #[.int .u64 0] 57)).alloc (.cells #[.int .i64 0] 3)).alloc (.cells #[.int .i64 0] 27)).alloc (.cells #[.int .u64 0] 57)).alloc (.cells #[.slice (Option.map (fun x => x.add l.length) A) 0 (cap - l.length)] 41)) := ⟨_, rfl⟩
  rw [← hWs]
  obtain ⟨hsz, hB0, hc0, hcr1, hcr2, hcr3, hcn, hcs, hfr⟩ := six _ _ _ _ _ _ _ _ _ _ _ _ _ _ hWs
  have hcr : Res w.heap.size Ws 0 0 0 := ⟨hcr1, hcr2, hcr3⟩
  clear hcr1 hcr2 hcr3
  clear hWs
  refine wpIn_rangeFunc_ownG hro h1 (gf := 95) (lb := #[.pointer (some ⟨w.heap.size + 5, 0, none⟩)]) rfl hF3 (enters_of Tryd.func95 (by kernel_rfl) rfl)
    (groups_stops (fun p : Ent => #[.int .i64 (p.k : Int), .int .u8 (p.c.toNat : Int)]) (ent bs) F (n - 1) hF3 hro (by omega) (w.heap.size + 5) w.heap.size _ _ bs (by omega) Ws (by omega) (by omega) (fun j hj => by simp [ent]; omega) (by rw [hbl]; exact hcs) ((hbR _).below hB0 (Nat.le_refl _))) belowK_t (belowK_b (by omega)) (Below.refl _ _) (fun _ => rfl)
    (fun pre W => ((∀ p ∈ pre, p.goes) ∧ W.cell? ⟨w.heap.size, 0, none⟩ = some (.int .i64 ((l.length : Int) : Int)) ∧ Res w.heap.size W 0 0 0 ∧ Froz w.heap.size W ∧ W.cell? ⟨w.heap.size + 4, 0, none⟩ = some (.int .u64 (accG pre))) ∧ Below w.heap.size w W)
    (fun c pre W => (c = .ret ∧ ∃ ini last, pre = ini ++ [last] ∧ (∀ p ∈ ini, p.goes) ∧ ∃ x y z, Ends l.length (accG ini) last x y z ∧ Res w.heap.size W x y z) ∧ Below w.heap.size w W)
    ?hI ?hIx ⟨⟨by simp, hc0, hcr, hfr, hcn⟩, hB0⟩ (fun x => { tmps := #[.slice A l.length cap, .int .i64 ((l.length : Int) : Int), undef, .pointer (some ⟨w.heap.size, 0, none⟩), .pointer (some ⟨w.heap.size + 1, 0, none⟩), .pointer (some ⟨w.heap.size + 1 + 1, 0, none⟩), .pointer (some ⟨w.heap.size + 1 + 1 + 1, 0, none⟩), .pointer (some ⟨w.heap.size + 1 + 1 + 1 + 1, 0, none⟩), .int .i64 (x.k : Int), .int .u8 (x.c.toNat : Int), .int .i64 ((l.length : Int) : Int), .bool false, .bool false, .int .i64 ((l.length : Int) : Int), .slice A l.length cap, .int .i64 (l.length : Int), .bool false, .bool false, .slice A l.length cap, .int .i64 ((l.length : Int) : Int), .slice (Option.map (fun x => x.add l.length) A) 0 (cap - l.length), .func (.func 95) #[] #[.pointer (some ⟨w.heap.size + 1 + 1 + 1 + 1 + 1, 0, none⟩)], .int .i64 (x.k : Int), .int .u8 (x.c.toNat : Int), undef, undef, undef, undef, undef, undef, undef, undef, undef, undef, undef, undef, undef, undef, undef, undef, undef, undef, undef, undef, undef, undef, undef, undef, undef, undef, undef, undef, undef], defers := [] }) ?assign ?body ?done ?stop
  case hI =>
    refine OwnFrom.and (Own.from (fun s A B row hs hg hr => ?_) _) (ownFrom_below (Nat.le_refl _) (by omega))
    obtain ⟨h1, h2, ⟨h3, h4, h5⟩, ⟨h6, h7, h8, h9⟩, h10⟩ := hs
    exact ⟨h1, cell_kept h2 hg hr, ⟨cell_kept h3 hg hr, cell_kept h4 hg hr, cell_kept h5 hg hr⟩, ⟨(frozen_kept h3 hg hr).trans h6, (frozen_kept h4 hg hr).trans h7, (frozen_kept h5 hg hr).trans h8, (frozen_kept h10 hg hr).trans h9⟩, cell_kept h10 hg hr⟩
  case hIx =>
    intro c
    refine OwnFrom.and (Own.from (fun s A B row hs hg hr => ?_) _) (ownFrom_below (Nat.le_refl _) (by omega))
    obtain ⟨hc, ini, last, e1, e2, x, y, z, he, h3, h4, h5⟩ := hs
    exact ⟨hc, ini, last, e1, e2, x, y, z, he, cell_kept h3 hg hr, cell_kept h4 hg hr, cell_kept h5 hg hr⟩
  case assign =>
    intro l x W K hK
    gi_wp2
    exact hK
  case body =>
    intro l0 pre x W _ hN
    rw [hbl] at hN
    exact absurd hN (by omega)
  case done =>
    rintro D ys W hD hS ⟨⟨hp, hca, hcr, hfr, hcn⟩, hB⟩ hK
    have hg := get_done l l.length bs hbs (by omega) ys hS hp
    have hr3 := hcr
    obtain ⟨hcr1, hcr2, hcr3⟩ := hcr
    obtain ⟨hfr1, hfr2, hfr3, hfr4⟩ := hfr
    gi_wp2
    have hK' := (keeps3 W ⟨w.heap.size + 1, 0, none⟩ ⟨w.heap.size + 2, 0, none⟩ ⟨w.heap.size + 3, 0, none⟩ (.int .u64 0) (.int .i64 0) (.int .i64 4)).same D _ hK rfl
    have hr4 := res3_set (x' := 0) (y' := 0) (z' := 4) hr3
    have hB4 := below3 hB ⟨w.heap.size + 1, 0, none⟩ ⟨w.heap.size + 2, 0, none⟩ ⟨w.heap.size + 3, 0, none⟩ (.int .u64 0) (.int .i64 0) (.int .i64 4) (by simp <;> omega) (by simp <;> omega) (by simp <;> omega)
    refine ⟨by simp, .inl ⟨_, _, rfl, run_takeDeferred hK', ?_⟩⟩
    obtain ⟨c1, c2, c3⟩ := hr4
    have d1 := cell_kept c1 (grownBy_putObj' _ D (.deferred none)) (fun r e => by cases e; exact ⟨_, hK', rfl⟩)
    have d2 := cell_kept c2 (grownBy_putObj' _ D (.deferred none)) (fun r e => by cases e; exact ⟨_, hK', rfl⟩)
    have d3 := cell_kept c3 (grownBy_putObj' _ D (.deferred none)) (fun r e => by cases e; exact ⟨_, hK', rfl⟩)
    refine ⟨res3 0 0 4, ?_, (by rw [hg]), hB4.trans (belowK_b (w := w) (Nat.le_refl _) _ D _ _ (by omega) hK' rfl rfl)⟩
    simp [results, Tryd.f63, go_sem, d1, d2, d3, res3]
  case stop =>
    rintro D c pre W hD hS ⟨⟨rfl, ini, last, e1, e2, x, y, z, he, hcr⟩, hB⟩ hK
    have hg := get_stop l l.length bs hbs (by omega) pre hS ini last e1 e2 x y z he
    gi_wp2
    obtain ⟨c1, c2, c3⟩ := hcr
    refine ⟨by simp, .inl ⟨_, _, rfl, run_takeDeferred hK, ?_⟩⟩
    have d1 := cell_kept c1 (grownBy_putObj' _ D (.deferred none)) (fun r e => by cases e; exact ⟨_, hK, rfl⟩)
    have d2 := cell_kept c2 (grownBy_putObj' _ D (.deferred none)) (fun r e => by cases e; exact ⟨_, hK, rfl⟩)
    have d3 := cell_kept c3 (grownBy_putObj' _ D (.deferred none)) (fun r e => by cases e; exact ⟨_, hK, rfl⟩)
    refine ⟨.tuple #[.int .u64 x, .int .i64 y, .int .i64 z], ?_, ?_, hB.trans (belowK_b (w := w) (Nat.le_refl _) W D _ _ (by omega) hK rfl rfl)⟩
    · simp [results, Tryd.f63, go_sem, d1, d2, d3]
    · rw [← hg.1, ← hg.2.1, ← hg.2.2]; rfl
theorem below4 (w : World) (a b c d : Obj) : Below w.heap.size w ((((w.alloc a).alloc b).alloc c).alloc d) := by
  have h1 := World.size_alloc w a
  have h2 := World.size_alloc (w.alloc a) b
  have h3 := World.size_alloc ((w.alloc a).alloc b) c
  exact ((((Below.refl _ w).alloc (Nat.le_refl _) _).alloc (by omega) _).alloc (by omega) _).alloc (by omega) _
set_option maxHeartbeats 2000000 in
set_option maxRecDepth 20000 in
theorem get_bad (w : World) (A : Option Addr) (cap : Nat) (n : Nat) (at_ : Int) (hat : at_ < 0 ∨ (n : Int) < at_) :
    Calls Tryd.prog 63 #[.slice A n cap, .int .i64 at_] w fun e w' => e = .returned (res3 0 0 2) ∧ Below w.heap.size w w' := by
  by_cases h0 : at_ < 0
  · go_enter Tryd.func63, Tryd.ntmps63
    go_wp2_with fail
    refine bodyPost_ret (v := .tuple #[.int .u64 0, .int .i64 0, .int .i64 2]) (by simp [results, Tryd.f63, go_sem]) rfl ⟨rfl, ?_⟩
    exact below4 w _ _ _ _
  · have h1 : (n : Int) < at_ := by omega
    clear hat
    go_enter Tryd.func63, Tryd.ntmps63
    go_wp2_with fail
    refine bodyPost_ret (v := .tuple #[.int .u64 0, .int .i64 0, .int .i64 2]) (by simp [results, Tryd.f63, go_sem]) rfl ⟨rfl, ?_⟩
    exact below4 w _ _ _ _
theorem get_any (w : World) (B : Nat) (A : Option Addr) (cap : Nat) (l : List UInt8) (at_ : Int) (hR : Rd w B A (bv l)) (hB : B ≤ w.heap.size) (hl : l.length ≤ 281474976706560) (hlc : l.length ≤ cap) :
    Calls Tryd.prog 63 #[.slice A l.length cap, .int .i64 at_] w fun e w' => e = .returned (res3 (getR l at_).1 (getR l at_).2.1 (getR l at_).2.2) ∧ Below w.heap.size w w' := by
  by_cases hat : at_ < 0 ∨ (l.length : Int) < at_
  · have hg : getR l at_ = (0, 0, 2) := by unfold getR; rw [if_pos hat]
    rw [hg]
    exact get_bad w A cap l.length at_ hat
  · obtain ⟨a, rfl⟩ : ∃ a : Nat, at_ = (a : Int) := Int.eq_ofNat_of_zero_le (by omega)
    refine (callsIn_wide (n := 3)).1 ?_
    rcases Nat.lt_or_ge a l.length with hlt | hge
    · obtain ⟨b, o, rfl, hb, _⟩ := hR.byte hlt
      exact get_in1 Fence.wide 3 trivial trivial trivial rfl (by omega) w B b o cap l a hR hB hl hlc hlt
    · obtain rfl : a = l.length := by omega
      by_cases hca : cap = l.length
      · rw [hca]
        exact get_in2 Fence.wide 3 trivial trivial trivial rfl (by omega) w A l hl
      · exact get_in3 Fence.wide 3 trivial trivial trivial rfl (by omega) w A cap l hl hca
end Go.Proofs.YtiakpcnglihnbaaDoor
/- Signed numbers as unsigned ones, in plain Lean. -/
namespace Go.Proofs.YtiakpcnglihnbaaDoor
def zz (n : Int) : Int := if n < 0 then -2 * n - 1 else 2 * n
def uz (u : Int) : Int := if u % 2 = 1 then -(u / 2) - 1 else u / 2
theorem zz_uz (u : Int) : zz (uz u) = u ∨ u < 0 := by
  unfold zz uz
  by_cases h0 : u < 0
  · exact .inr h0
  · left
    by_cases h : u % 2 = 1
    · rw [if_pos h, if_pos (by omega)]; omega
    · rw [if_neg h, if_neg (by omega)]; omega
theorem uz_zz (n : Int) : uz (zz n) = n := by
  unfold zz uz
  by_cases h : n < 0
  · rw [if_pos h, if_pos (by omega)]; omega
  · rw [if_neg h, if_neg (by omega)]; omega
theorem zz_range (n : Int) (h : -9223372036854775808 ≤ n ∧ n ≤ 9223372036854775807) : 0 ≤ zz n ∧ zz n ≤ 18446744073709551615 := by
  unfold zz; split <;> omega
theorem uz_range (u : Int) (h : 0 ≤ u ∧ u ≤ 18446744073709551615) : -9223372036854775808 ≤ uz u ∧ uz u ≤ 9223372036854775807 := by
  unfold uz; split <;> omega
theorem xor_ones (x : Nat) (h : x < 18446744073709551616) : x ^^^ 18446744073709551615 = 18446744073709551615 - x := by
  have e : (BitVec.ofNat 64 x ^^^ BitVec.allOnes 64).toNat = (~~~ BitVec.ofNat 64 x).toNat := by rw [BitVec.xor_allOnes]
  rw [BitVec.toNat_xor, BitVec.toNat_not, BitVec.toNat_allOnes, BitVec.toNat_ofNat, Nat.mod_eq_of_lt (by omega)] at e
  simpa using e
theorem zz_bits (n : Int) (h : -9223372036854775808 ≤ n ∧ n ≤ 9223372036854775807) :
    bits .xor .u64 (IntKind.u64.wrap (IntKind.u64.wrap n * 2 ^ min 1 64)) (IntKind.u64.wrap (n.fdiv (2 ^ min 63 64))) = zz n := by
  have e63 : ((2 : Int) ^ min 63 64) = 9223372036854775808 := by decide
  have e1 : ((2 : Int) ^ min 1 64) = 2 := by decide
  rw [e63, e1, Int.fdiv_eq_ediv_of_nonneg _ (by omega)]
  by_cases hn : n < 0
  · have h1 : IntKind.u64.wrap (IntKind.u64.wrap n * 2) = ((18446744073709551616 + 2 * n).toNat : Int) := by rw [IntKind.wrap_u64, IntKind.wrap_u64]; omega
    have h2 : IntKind.u64.wrap (n / 9223372036854775808) = ((18446744073709551615 : Nat) : Int) := by rw [IntKind.wrap_u64]; omega
    rw [h1, h2, u64_xor_nat _ _ (by omega) (by omega), xor_ones _ (by omega)]
    unfold zz; rw [if_pos hn]; omega
  · have h1 : IntKind.u64.wrap (IntKind.u64.wrap n * 2) = ((2 * n).toNat : Int) := by rw [IntKind.wrap_u64, IntKind.wrap_u64]; omega
    have h2 : IntKind.u64.wrap (n / 9223372036854775808) = ((0 : Nat) : Int) := by rw [IntKind.wrap_u64]; omega
    rw [h1, h2, u64_xor_nat _ _ (by omega) (by omega), Nat.xor_zero]
    unfold zz; rw [if_neg hn]; omega
theorem uz_bits (u : Int) (h : 0 ≤ u ∧ u ≤ 18446744073709551615) :
    bits .xor .i64 (IntKind.i64.wrap (u.fdiv (2 ^ min 1 64))) (IntKind.i64.wrap (0 - IntKind.i64.wrap (bits .and .u64 u 1))) = uz u := by
  have e1 : ((2 : Int) ^ min 1 64) = 2 := by decide
  obtain ⟨m, rfl⟩ : ∃ m : Nat, u = (m : Int) := Int.eq_ofNat_of_zero_le h.1
  have h0 : bits .and .u64 (m : Int) 1 = ((m % 2 : Nat) : Int) := by
    rw [show (1 : Int) = ((1 : Nat) : Int) from rfl, u64_and_nat _ _ (by omega) (by omega), Nat.and_one_is_mod]
  rw [e1, Int.fdiv_eq_ediv_of_nonneg _ (by omega), h0]
  have h1 : IntKind.i64.wrap ((m : Int) / 2) = ((m / 2 : Nat) : Int) := by rw [IntKind.wrap_i64]; omega
  rw [h1]
  have hb : (BitVec.ofInt 64 ((m / 2 : Nat) : Int)) = BitVec.ofNat 64 (m / 2) := BitVec.ofInt_natCast _ _
  by_cases ho : m % 2 = 1
  · have h2 : IntKind.i64.wrap (0 - IntKind.i64.wrap ((m % 2 : Nat) : Int)) = -1 := by rw [IntKind.wrap_i64, IntKind.wrap_i64]; omega
    rw [h2]
    show IntKind.i64.wrap ((BitVec.ofInt 64 ((m / 2 : Nat) : Int) ^^^ BitVec.ofInt 64 (-1)).toNat : Int) = uz m
    rw [hb, show BitVec.ofInt 64 (-1) = BitVec.allOnes 64 by decide, BitVec.xor_allOnes, BitVec.toNat_not, BitVec.toNat_ofNat, Nat.mod_eq_of_lt (by omega), IntKind.wrap_i64]
    unfold uz
    rw [if_pos (by omega)]
    omega
  · have h2 : IntKind.i64.wrap (0 - IntKind.i64.wrap ((m % 2 : Nat) : Int)) = 0 := by rw [IntKind.wrap_i64, IntKind.wrap_i64]; omega
    rw [h2]
    show IntKind.i64.wrap ((BitVec.ofInt 64 ((m / 2 : Nat) : Int) ^^^ BitVec.ofInt 64 0).toNat : Int) = uz m
    rw [hb, show BitVec.ofInt 64 0 = 0#64 by decide, BitVec.xor_zero, BitVec.toNat_ofNat, Nat.mod_eq_of_lt (by omega), IntKind.wrap_i64]
    unfold uz
    rw [if_neg (by omega)]
    omega
end Go.Proofs.YtiakpcnglihnbaaDoor
/- Contracts of the package varint, of its reference and of bytes.Equal over descriptions. -/
namespace Go.Proofs.YtiakpcnglihnbaaDoor
open Go.RowKit
set_option linter.unusedVariables false
set_option linter.unusedSimpArgs false
/-- A contract of the kit's form, at plain values. -/
theorem does_val {P : Program} {f : FuncId} {us : List Value} {v : Value} (he : Entr P f) (h : ∀ w, Calls P f us.toArray w fun e w' => e = .returned v ∧ w = w') : Does P f (us.map .val) .none fun d _ => d = .val v :=
  And.intro he fun w vs hvs hH => by
    have : vs = us := by
      clear h
      induction us generalizing vs with
      | nil => simpa only [List.map_nil, valsAll] using hvs
      | cons u us ih =>
        simp only [List.map_cons, valsAll, D.is] at hvs
        obtain ⟨_, us', rfl, rfl, h2⟩ := hvs
        rw [ih us' h2]
    subst this
    refine (h w).mono ?_
    rintro e w' ⟨rfl, rfl⟩
    exact ⟨v, .val v, .none, rfl, is_mk _, hH, Ev.refl _ _, rfl⟩
theorem dval_int {k : IntKind} {a b : Int} (h : a = b) : D.val (.int k a) = D.val (.int k b) := by rw [h]
theorem equal_N (l m : List UInt8) : Does Tryd.prog 22 [.seq 1 (l.map bD), .seq 1 (m.map bD)] .none fun d _ => d = .val (.bool (decide (l = m))) := by
  refine does_of _ _ Tryd.func22 rfl rfl Tryd.ntmps22 Tryd.results22 (by simp only [List.length_cons, List.length_nil]; omega) fun w0 Q hret => ?_
  (repeat (first | refine W_seq ?_ | refine W_block ?_ | refine W_skip ?_ | refine W_exit ?_ | refine W_ret ?_ | refine W_label ?_ | ((first | refine W_ops (by kernel_rfl) ?_ | refine W_if ?_ | refine WL_go (by kernel_rfl) (by kernel_rfl) ?_); simp (maxSteps := 4000000) only [vB, vT, vZ, vcOps, isCall, mmV, lkV, muV, keyVal, keyVals, mget_nil, ↓selV_eq, eqK, stepOp, clV, biV, bnU, nilU, binV, bInt, bStr, bNilP, bNilS, bNilM, nilOp, D.nilPtr, D.nilSl, D.nilMap, isBoolTy, unV, cwV, cvV, elsP, partV, fieldsOf, fieldV, faV, iaV, ixV, ldC, ldV, stV, D.cells, putAt, bxV, alV, bldD, placesOf, allSized, bdV, bsV, rowsD, mkV, bdN, slV, newsP, TD.notInt, TD.agg, azV, clrV, cpyV, cpV, lenV, minV, maxV, ncV, exV, condV, retV, thenQ, blockQ, Value.oneCell', forall_const, true_implies, ne_eq, reduceCtorEq, false_implies, eq_self, if_true, if_false, ↓reduceIte, Nat.reduceEqDiff, Int.reduceLE, Int.reduceLT, Int.reduceNeg, Int.reduceToNat, Nat.reduceAdd, Nat.reduceMul, Nat.reduceLeDiff, Nat.reduceMod, Nat.reduceSub, Int.reduceEq, Int.reduceNe, Int.reduceAdd, Int.reduceSub, Int.reduceMul, implies_true, apV])))
  simp (maxSteps := 4000000) only [vB, vT, vZ, vcOps, isCall, mmV, lkV, muV, keyVal, keyVals, mget_nil, ↓selV_eq, eqK, stepOp, clV, biV, bnU, nilU, binV, bInt, bStr, bNilP, bNilS, bNilM, nilOp, D.nilPtr, D.nilSl, D.nilMap, isBoolTy, unV, cwV, cvV, elsP, partV, fieldsOf, fieldV, faV, iaV, ixV, ldC, ldV, stV, D.cells, putAt, bxV, alV, bldD, placesOf, allSized, bdV, bsV, rowsD, mkV, bdN, slV, newsP, TD.notInt, TD.agg, azV, clrV, cpyV, cpV, lenV, minV, maxV, ncV, exV, condV, retV, thenQ, blockQ, Value.oneCell', forall_const, true_implies, ne_eq, reduceCtorEq, false_implies, eq_self, if_true, if_false, ↓reduceIte, Nat.reduceEqDiff, Int.reduceLE, Int.reduceLT, Int.reduceNeg, Int.reduceToNat, Nat.reduceAdd, Nat.reduceMul, Nat.reduceLeDiff, Nat.reduceMod, Nat.reduceSub, Int.reduceEq, Int.reduceNe, Int.reduceAdd, Int.reduceSub, Int.reduceMul, implies_true, apV, bytesOf_map, bstr_toL]
  (repeat (first | refine W_seq ?_ | refine W_block ?_ | refine W_skip ?_ | refine W_exit ?_ | refine W_ret ?_ | refine W_label ?_ | ((first | refine W_ops (by kernel_rfl) ?_ | refine W_if ?_ | refine WL_go (by kernel_rfl) (by kernel_rfl) ?_); simp (maxSteps := 4000000) only [vB, vT, vZ, vcOps, isCall, mmV, lkV, muV, keyVal, keyVals, mget_nil, ↓selV_eq, eqK, stepOp, clV, biV, bnU, nilU, binV, bInt, bStr, bNilP, bNilS, bNilM, nilOp, D.nilPtr, D.nilSl, D.nilMap, isBoolTy, unV, cwV, cvV, elsP, partV, fieldsOf, fieldV, faV, iaV, ixV, ldC, ldV, stV, D.cells, putAt, bxV, alV, bldD, placesOf, allSized, bdV, bsV, rowsD, mkV, bdN, slV, newsP, TD.notInt, TD.agg, azV, clrV, cpyV, cpV, lenV, minV, maxV, ncV, exV, condV, retV, thenQ, blockQ, Value.oneCell', forall_const, true_implies, ne_eq, reduceCtorEq, false_implies, eq_self, if_true, if_false, ↓reduceIte, Nat.reduceEqDiff, Int.reduceLE, Int.reduceLT, Int.reduceNeg, Int.reduceToNat, Nat.reduceAdd, Nat.reduceMul, Nat.reduceLeDiff, Nat.reduceMod, Nat.reduceSub, Int.reduceEq, Int.reduceNe, Int.reduceAdd, Int.reduceSub, Int.reduceMul, implies_true, apV])))
  refine hret _ _ (by first | exact .inr rfl | exact .inl rfl) rfl ?_; simp (maxSteps := 4000000) only [vB, vT, vZ, vcOps, isCall, mmV, lkV, muV, keyVal, keyVals, mget_nil, ↓selV_eq, eqK, stepOp, clV, biV, bnU, nilU, binV, bInt, bStr, bNilP, bNilS, bNilM, nilOp, D.nilPtr, D.nilSl, D.nilMap, isBoolTy, unV, cwV, cvV, elsP, partV, fieldsOf, fieldV, faV, iaV, ixV, ldC, ldV, stV, D.cells, putAt, bxV, alV, bldD, placesOf, allSized, bdV, bsV, rowsD, mkV, bdN, slV, newsP, TD.notInt, TD.agg, azV, clrV, cpyV, cpV, lenV, minV, maxV, ncV, exV, condV, retV, thenQ, blockQ, Value.oneCell', forall_const, true_implies, ne_eq, reduceCtorEq, false_implies, eq_self, if_true, if_false, ↓reduceIte, Nat.reduceEqDiff, Int.reduceLE, Int.reduceLT, Int.reduceNeg, Int.reduceToNat, Nat.reduceAdd, Nat.reduceMul, Nat.reduceLeDiff, Nat.reduceMod, Nat.reduceSub, Int.reduceEq, Int.reduceNe, Int.reduceAdd, Int.reduceSub, Int.reduceMul, implies_true, apV]
  exact ⟨_, Heap.le_refl _⟩
theorem size_N (n : Nat) (h : n < 18446744073709551616) : Does Tryd.prog 82 [.val (.int .u64 (n : Int))] .none fun d _ => d = .val (.int .i64 ((put n).length : Nat)) := by
  have e : sizeN n = (put n).length := size_put n h
  rw [← e]
  exact does_val (us := [.int .u64 (n : Int)]) (ent_of Tryd.func82 rfl rfl) fun w => size_any n w h
theorem rzig_N (n : Int) (h : -9223372036854775808 ≤ n ∧ n ≤ 9223372036854775807) : Does Tryd.prog 60 [.val (.int .i64 n)] .none fun d _ => d = .val (.int .u64 (zz n)) := by
  refine does_of _ _ Tryd.func60 rfl rfl Tryd.ntmps60 Tryd.results60 (by simp only [List.length_cons, List.length_nil]; omega) fun w0 Q hret => ?_
  (repeat (first | refine W_seq ?_ | refine W_block ?_ | refine W_skip ?_ | refine W_exit ?_ | refine W_ret ?_ | refine W_label ?_ | ((first | refine W_ops (by kernel_rfl) ?_ | refine W_if ?_ | refine WL_go (by kernel_rfl) (by kernel_rfl) ?_); simp (maxSteps := 4000000) only [vB, vT, vZ, vcOps, isCall, mmV, lkV, muV, keyVal, keyVals, mget_nil, ↓selV_eq, eqK, stepOp, clV, biV, bnU, nilU, binV, bInt, bStr, bNilP, bNilS, bNilM, nilOp, D.nilPtr, D.nilSl, D.nilMap, isBoolTy, unV, cwV, cvV, elsP, partV, fieldsOf, fieldV, faV, iaV, ixV, ldC, ldV, stV, D.cells, putAt, bxV, alV, bldD, placesOf, allSized, bdV, bsV, rowsD, mkV, bdN, slV, newsP, TD.notInt, TD.agg, azV, clrV, cpyV, cpV, lenV, minV, maxV, ncV, exV, condV, retV, thenQ, blockQ, Value.oneCell', forall_const, true_implies, ne_eq, reduceCtorEq, false_implies, eq_self, if_true, if_false, ↓reduceIte, Nat.reduceEqDiff, Int.reduceLE, Int.reduceLT, Int.reduceNeg, Int.reduceToNat, Nat.reduceAdd, Nat.reduceMul, Nat.reduceLeDiff, Nat.reduceMod, Nat.reduceSub, Int.reduceEq, Int.reduceNe, Int.reduceAdd, Int.reduceSub, Int.reduceMul, implies_true, apV])))
  refine ⟨fun hn => ?_, fun hn => ?_⟩
  · (repeat (first | refine W_seq ?_ | refine W_block ?_ | refine W_skip ?_ | refine W_exit ?_ | refine W_ret ?_ | refine W_label ?_ | ((first | refine W_ops (by kernel_rfl) ?_ | refine W_if ?_ | refine WL_go (by kernel_rfl) (by kernel_rfl) ?_); simp (maxSteps := 4000000) only [vB, vT, vZ, vcOps, isCall, mmV, lkV, muV, keyVal, keyVals, mget_nil, ↓selV_eq, eqK, stepOp, clV, biV, bnU, nilU, binV, bInt, bStr, bNilP, bNilS, bNilM, nilOp, D.nilPtr, D.nilSl, D.nilMap, isBoolTy, unV, cwV, cvV, elsP, partV, fieldsOf, fieldV, faV, iaV, ixV, ldC, ldV, stV, D.cells, putAt, bxV, alV, bldD, placesOf, allSized, bdV, bsV, rowsD, mkV, bdN, slV, newsP, TD.notInt, TD.agg, azV, clrV, cpyV, cpV, lenV, minV, maxV, ncV, exV, condV, retV, thenQ, blockQ, Value.oneCell', forall_const, true_implies, ne_eq, reduceCtorEq, false_implies, eq_self, if_true, if_false, ↓reduceIte, Nat.reduceEqDiff, Int.reduceLE, Int.reduceLT, Int.reduceNeg, Int.reduceToNat, Nat.reduceAdd, Nat.reduceMul, Nat.reduceLeDiff, Nat.reduceMod, Nat.reduceSub, Int.reduceEq, Int.reduceNe, Int.reduceAdd, Int.reduceSub, Int.reduceMul, implies_true, apV])))
    refine hret _ _ (by first | exact .inr rfl | exact .inl rfl) rfl ?_; simp (maxSteps := 4000000) only [vB, vT, vZ, vcOps, isCall, mmV, lkV, muV, keyVal, keyVals, mget_nil, ↓selV_eq, eqK, stepOp, clV, biV, bnU, nilU, binV, bInt, bStr, bNilP, bNilS, bNilM, nilOp, D.nilPtr, D.nilSl, D.nilMap, isBoolTy, unV, cwV, cvV, elsP, partV, fieldsOf, fieldV, faV, iaV, ixV, ldC, ldV, stV, D.cells, putAt, bxV, alV, bldD, placesOf, allSized, bdV, bsV, rowsD, mkV, bdN, slV, newsP, TD.notInt, TD.agg, azV, clrV, cpyV, cpV, lenV, minV, maxV, ncV, exV, condV, retV, thenQ, blockQ, Value.oneCell', forall_const, true_implies, ne_eq, reduceCtorEq, false_implies, eq_self, if_true, if_false, ↓reduceIte, Nat.reduceEqDiff, Int.reduceLE, Int.reduceLT, Int.reduceNeg, Int.reduceToNat, Nat.reduceAdd, Nat.reduceMul, Nat.reduceLeDiff, Nat.reduceMod, Nat.reduceSub, Int.reduceEq, Int.reduceNe, Int.reduceAdd, Int.reduceSub, Int.reduceMul, implies_true, apV]
    refine ⟨_, Heap.le_none _, ?_⟩
    refine dval_int ?_
    rw [IntKind.wrap_u64, IntKind.wrap_u64, IntKind.wrap_u64, IntKind.wrap_i64, IntKind.wrap_i64]; unfold zz; rw [if_pos hn]; omega
  · (repeat (first | refine W_seq ?_ | refine W_block ?_ | refine W_skip ?_ | refine W_exit ?_ | refine W_ret ?_ | refine W_label ?_ | ((first | refine W_ops (by kernel_rfl) ?_ | refine W_if ?_ | refine WL_go (by kernel_rfl) (by kernel_rfl) ?_); simp (maxSteps := 4000000) only [vB, vT, vZ, vcOps, isCall, mmV, lkV, muV, keyVal, keyVals, mget_nil, ↓selV_eq, eqK, stepOp, clV, biV, bnU, nilU, binV, bInt, bStr, bNilP, bNilS, bNilM, nilOp, D.nilPtr, D.nilSl, D.nilMap, isBoolTy, unV, cwV, cvV, elsP, partV, fieldsOf, fieldV, faV, iaV, ixV, ldC, ldV, stV, D.cells, putAt, bxV, alV, bldD, placesOf, allSized, bdV, bsV, rowsD, mkV, bdN, slV, newsP, TD.notInt, TD.agg, azV, clrV, cpyV, cpV, lenV, minV, maxV, ncV, exV, condV, retV, thenQ, blockQ, Value.oneCell', forall_const, true_implies, ne_eq, reduceCtorEq, false_implies, eq_self, if_true, if_false, ↓reduceIte, Nat.reduceEqDiff, Int.reduceLE, Int.reduceLT, Int.reduceNeg, Int.reduceToNat, Nat.reduceAdd, Nat.reduceMul, Nat.reduceLeDiff, Nat.reduceMod, Nat.reduceSub, Int.reduceEq, Int.reduceNe, Int.reduceAdd, Int.reduceSub, Int.reduceMul, implies_true, apV])))
    refine hret _ _ (by first | exact .inr rfl | exact .inl rfl) rfl ?_; simp (maxSteps := 4000000) only [vB, vT, vZ, vcOps, isCall, mmV, lkV, muV, keyVal, keyVals, mget_nil, ↓selV_eq, eqK, stepOp, clV, biV, bnU, nilU, binV, bInt, bStr, bNilP, bNilS, bNilM, nilOp, D.nilPtr, D.nilSl, D.nilMap, isBoolTy, unV, cwV, cvV, elsP, partV, fieldsOf, fieldV, faV, iaV, ixV, ldC, ldV, stV, D.cells, putAt, bxV, alV, bldD, placesOf, allSized, bdV, bsV, rowsD, mkV, bdN, slV, newsP, TD.notInt, TD.agg, azV, clrV, cpyV, cpV, lenV, minV, maxV, ncV, exV, condV, retV, thenQ, blockQ, Value.oneCell', forall_const, true_implies, ne_eq, reduceCtorEq, false_implies, eq_self, if_true, if_false, ↓reduceIte, Nat.reduceEqDiff, Int.reduceLE, Int.reduceLT, Int.reduceNeg, Int.reduceToNat, Nat.reduceAdd, Nat.reduceMul, Nat.reduceLeDiff, Nat.reduceMod, Nat.reduceSub, Int.reduceEq, Int.reduceNe, Int.reduceAdd, Int.reduceSub, Int.reduceMul, implies_true, apV]
    refine ⟨_, Heap.le_none _, ?_⟩
    refine dval_int ?_
    rw [IntKind.wrap_u64, IntKind.wrap_u64]; unfold zz; rw [if_neg hn]; omega
def PutR (n : Nat) (H : Heap) (d : D) (H' : Heap) : Prop := ∃ b o, H b = none ∧ d = .os b o 1 0 (put n).length ∧ H' = H.upd b (.row 5 o 1 ((put n).map bD))
def PutI (n : Nat) (H : Heap) (s : St) : Prop := s.df = [] ∧ ∃ (pre : List UInt8) (x b o : Nat), put n = pre ++ put x ∧ x < 18446744073709551616 ∧ s.fr 0 = .val (.int .u64 x) ∧ s.fr 3 = .os b o 1 0 pre.length ∧ H b = none ∧ s.H = H.upd b (.row 5 o 1 (pre.map bD))
theorem put_N (n : Nat) (H : Heap) (hn : n < 18446744073709551616) : Does Tryd.prog 57 [.val (.int .u64 n)] H (PutR n H) := by
  have hpl := put_length n hn
  refine does_of _ _ Tryd.func57 rfl rfl Tryd.ntmps57 Tryd.results57 (by simp only [List.length_cons, List.length_nil]; omega) fun w0 Q hret => ?_
  (repeat (first | refine W_seq ?_ | refine W_block ?_ | refine W_skip ?_ | refine W_exit ?_ | refine W_ret ?_ | refine W_label ?_ | ((first | refine W_ops (by kernel_rfl) ?_ | refine W_if ?_ | refine WL_go (by kernel_rfl) (by kernel_rfl) ?_); simp (maxSteps := 4000000) only [vB, vT, vZ, vcOps, isCall, mmV, lkV, muV, keyVal, keyVals, mget_nil, ↓selV_eq, eqK, stepOp, clV, biV, bnU, nilU, binV, bInt, bStr, bNilP, bNilS, bNilM, nilOp, D.nilPtr, D.nilSl, D.nilMap, isBoolTy, unV, cwV, cvV, elsP, partV, fieldsOf, fieldV, faV, iaV, ixV, ldC, ldV, stV, D.cells, putAt, bxV, alV, bldD, placesOf, allSized, bdV, bsV, rowsD, mkV, bdN, slV, newsP, TD.notInt, TD.agg, azV, clrV, cpyV, cpV, lenV, minV, maxV, ncV, exV, condV, retV, thenQ, blockQ, Value.oneCell', forall_const, true_implies, ne_eq, reduceCtorEq, false_implies, eq_self, if_true, if_false, ↓reduceIte, Nat.reduceEqDiff, Int.reduceLE, Int.reduceLT, Int.reduceNeg, Int.reduceToNat, Nat.reduceAdd, Nat.reduceMul, Nat.reduceLeDiff, Nat.reduceMod, Nat.reduceSub, Int.reduceEq, Int.reduceNe, Int.reduceAdd, Int.reduceSub, Int.reduceMul, implies_true, apV])))
  refine (pure_D (size_N n hn) rfl (vws1 (vw_refl _ _))).mono ?_
  rintro d _ ⟨rfl, rfl⟩
  (repeat (first | refine W_seq ?_ | refine W_block ?_ | refine W_skip ?_ | refine W_exit ?_ | refine W_ret ?_ | refine W_label ?_ | ((first | refine W_ops (by kernel_rfl) ?_ | refine W_if ?_ | refine WL_go (by kernel_rfl) (by kernel_rfl) ?_); simp (maxSteps := 4000000) only [vB, vT, vZ, vcOps, isCall, mmV, lkV, muV, keyVal, keyVals, mget_nil, ↓selV_eq, eqK, stepOp, clV, biV, bnU, nilU, binV, bInt, bStr, bNilP, bNilS, bNilM, nilOp, D.nilPtr, D.nilSl, D.nilMap, isBoolTy, unV, cwV, cvV, elsP, partV, fieldsOf, fieldV, faV, iaV, ixV, ldC, ldV, stV, D.cells, putAt, bxV, alV, bldD, placesOf, allSized, bdV, bsV, rowsD, mkV, bdN, slV, newsP, TD.notInt, TD.agg, azV, clrV, cpyV, cpV, lenV, minV, maxV, ncV, exV, condV, retV, thenQ, blockQ, Value.oneCell', forall_const, true_implies, ne_eq, reduceCtorEq, false_implies, eq_self, if_true, if_false, ↓reduceIte, Nat.reduceEqDiff, Int.reduceLE, Int.reduceLT, Int.reduceNeg, Int.reduceToNat, Nat.reduceAdd, Nat.reduceMul, Nat.reduceLeDiff, Nat.reduceMod, Nat.reduceSub, Int.reduceEq, Int.reduceNe, Int.reduceAdd, Int.reduceSub, Int.reduceMul, implies_true, apV])))
  refine ⟨by omega, by omega, by omega, fun b hb => ?_⟩
  (repeat (first | refine W_seq ?_ | refine W_block ?_ | refine W_skip ?_ | refine W_exit ?_ | refine W_ret ?_ | refine W_label ?_ | ((first | refine W_ops (by kernel_rfl) ?_ | refine W_if ?_ | refine WL_go (by kernel_rfl) (by kernel_rfl) ?_); simp (maxSteps := 4000000) only [vB, vT, vZ, vcOps, isCall, mmV, lkV, muV, keyVal, keyVals, mget_nil, ↓selV_eq, eqK, stepOp, clV, biV, bnU, nilU, binV, bInt, bStr, bNilP, bNilS, bNilM, nilOp, D.nilPtr, D.nilSl, D.nilMap, isBoolTy, unV, cwV, cvV, elsP, partV, fieldsOf, fieldV, faV, iaV, ixV, ldC, ldV, stV, D.cells, putAt, bxV, alV, bldD, placesOf, allSized, bdV, bsV, rowsD, mkV, bdN, slV, newsP, TD.notInt, TD.agg, azV, clrV, cpyV, cpV, lenV, minV, maxV, ncV, exV, condV, retV, thenQ, blockQ, Value.oneCell', forall_const, true_implies, ne_eq, reduceCtorEq, false_implies, eq_self, if_true, if_false, ↓reduceIte, Nat.reduceEqDiff, Int.reduceLE, Int.reduceLT, Int.reduceNeg, Int.reduceToNat, Nat.reduceAdd, Nat.reduceMul, Nat.reduceLeDiff, Nat.reduceMod, Nat.reduceSub, Int.reduceEq, Int.reduceNe, Int.reduceAdd, Int.reduceSub, Int.reduceMul, implies_true, apV])))
  refine W_loop (PutI n H) (fun s => (intD (s.fr 0)).toNat) _ (Heap.le_refl _) ⟨rfl, [], n, b, 0, rfl, hn, rfl, rfl, hb, rfl⟩ ?_
  clear hb
  rintro s ⟨hdf, pre, x, b, o, hpre, hx, h0, h3, hb, hH⟩
  have hlen : pre.length + (put x).length ≤ 10 := by rw [← List.length_append, ← hpre]; exact hpl.2
  have hx1 := put_length x hx
  (repeat (first | refine W_seq ?_ | refine W_block ?_ | refine W_skip ?_ | refine W_exit ?_ | refine W_ret ?_ | refine W_label ?_ | ((first | refine W_ops (by kernel_rfl) ?_ | refine W_if ?_ | refine WL_go (by kernel_rfl) (by kernel_rfl) ?_); simp (maxSteps := 4000000) only [vB, vT, vZ, vcOps, isCall, mmV, lkV, muV, keyVal, keyVals, mget_nil, ↓selV_eq, eqK, stepOp, clV, biV, bnU, nilU, binV, bInt, bStr, bNilP, bNilS, bNilM, nilOp, D.nilPtr, D.nilSl, D.nilMap, isBoolTy, unV, cwV, cvV, elsP, partV, fieldsOf, fieldV, faV, iaV, ixV, ldC, ldV, stV, D.cells, putAt, bxV, alV, bldD, placesOf, allSized, bdV, bsV, rowsD, mkV, bdN, slV, newsP, TD.notInt, TD.agg, azV, clrV, cpyV, cpV, lenV, minV, maxV, ncV, exV, condV, retV, thenQ, blockQ, Value.oneCell', forall_const, true_implies, ne_eq, reduceCtorEq, false_implies, eq_self, if_true, if_false, ↓reduceIte, Nat.reduceEqDiff, Int.reduceLE, Int.reduceLT, Int.reduceNeg, Int.reduceToNat, Nat.reduceAdd, Nat.reduceMul, Nat.reduceLeDiff, Nat.reduceMod, Nat.reduceSub, Int.reduceEq, Int.reduceNe, Int.reduceAdd, Int.reduceSub, Int.reduceMul, implies_true, apV, h0, h3, hH])))
  refine ⟨fun h => ?_, fun h => ?_⟩
  · (repeat (first | refine W_seq ?_ | refine W_block ?_ | refine W_skip ?_ | refine W_exit ?_ | refine W_ret ?_ | refine W_label ?_ | ((first | refine W_ops (by kernel_rfl) ?_ | refine W_if ?_ | refine WL_go (by kernel_rfl) (by kernel_rfl) ?_); simp (maxSteps := 4000000) only [vB, vT, vZ, vcOps, isCall, mmV, lkV, muV, keyVal, keyVals, mget_nil, ↓selV_eq, eqK, stepOp, clV, biV, bnU, nilU, binV, bInt, bStr, bNilP, bNilS, bNilM, nilOp, D.nilPtr, D.nilSl, D.nilMap, isBoolTy, unV, cwV, cvV, elsP, partV, fieldsOf, fieldV, faV, iaV, ixV, ldC, ldV, stV, D.cells, putAt, bxV, alV, bldD, placesOf, allSized, bdV, bsV, rowsD, mkV, bdN, slV, newsP, TD.notInt, TD.agg, azV, clrV, cpyV, cpV, lenV, minV, maxV, ncV, exV, condV, retV, thenQ, blockQ, Value.oneCell', forall_const, true_implies, ne_eq, reduceCtorEq, false_implies, eq_self, if_true, if_false, ↓reduceIte, Nat.reduceEqDiff, Int.reduceLE, Int.reduceLT, Int.reduceNeg, Int.reduceToNat, Nat.reduceAdd, Nat.reduceMul, Nat.reduceLeDiff, Nat.reduceMod, Nat.reduceSub, Int.reduceEq, Int.reduceNe, Int.reduceAdd, Int.reduceSub, Int.reduceMul, implies_true, apV, h0, h3, hH])))
    intro b1 hb1
    obtain ⟨hne, hb1⟩ := Heap.upd_none.1 hb1
    simp (maxSteps := 4000000) only [vB, vT, vZ, vcOps, isCall, mmV, lkV, muV, keyVal, keyVals, mget_nil, ↓selV_eq, eqK, stepOp, clV, biV, bnU, nilU, binV, bInt, bStr, bNilP, bNilS, bNilM, nilOp, D.nilPtr, D.nilSl, D.nilMap, isBoolTy, unV, cwV, cvV, elsP, partV, fieldsOf, fieldV, faV, iaV, ixV, ldC, ldV, stV, D.cells, putAt, bxV, alV, bldD, placesOf, allSized, bdV, bsV, rowsD, mkV, bdN, slV, newsP, TD.notInt, TD.agg, azV, clrV, cpyV, cpV, lenV, minV, maxV, ncV, exV, condV, retV, thenQ, blockQ, Value.oneCell', forall_const, true_implies, ne_eq, reduceCtorEq, false_implies, eq_self, if_true, if_false, ↓reduceIte, Nat.reduceEqDiff, Int.reduceLE, Int.reduceLT, Int.reduceNeg, Int.reduceToNat, Nat.reduceAdd, Nat.reduceMul, Nat.reduceLeDiff, Nat.reduceMod, Nat.reduceSub, Int.reduceEq, Int.reduceNe, Int.reduceAdd, Int.reduceSub, Int.reduceMul, implies_true, apV, Heap.upd_ne' hne, Heap.del_upd_ne (Ne.symm hne), Heap.del_none hb]
    refine ⟨by omega, fun b2 o2 hb2 => ?_⟩
    obtain ⟨hne2, hb2⟩ := Heap.upd_none.1 hb2
    (repeat (first | refine W_seq ?_ | refine W_block ?_ | refine W_skip ?_ | refine W_exit ?_ | refine W_ret ?_ | refine W_label ?_ | ((first | refine W_ops (by kernel_rfl) ?_ | refine W_if ?_ | refine WL_go (by kernel_rfl) (by kernel_rfl) ?_); simp (maxSteps := 4000000) only [vB, vT, vZ, vcOps, isCall, mmV, lkV, muV, keyVal, keyVals, mget_nil, ↓selV_eq, eqK, stepOp, clV, biV, bnU, nilU, binV, bInt, bStr, bNilP, bNilS, bNilM, nilOp, D.nilPtr, D.nilSl, D.nilMap, isBoolTy, unV, cwV, cvV, elsP, partV, fieldsOf, fieldV, faV, iaV, ixV, ldC, ldV, stV, D.cells, putAt, bxV, alV, bldD, placesOf, allSized, bdV, bsV, rowsD, mkV, bdN, slV, newsP, TD.notInt, TD.agg, azV, clrV, cpyV, cpV, lenV, minV, maxV, ncV, exV, condV, retV, thenQ, blockQ, Value.oneCell', forall_const, true_implies, ne_eq, reduceCtorEq, false_implies, eq_self, if_true, if_false, ↓reduceIte, Nat.reduceEqDiff, Int.reduceLE, Int.reduceLT, Int.reduceNeg, Int.reduceToNat, Nat.reduceAdd, Nat.reduceMul, Nat.reduceLeDiff, Nat.reduceMod, Nat.reduceSub, Int.reduceEq, Int.reduceNe, Int.reduceAdd, Int.reduceSub, Int.reduceMul, implies_true, apV, h0, h3, hH])))
    have e1 : [D.val (.int .u8 (bits .or .u8 (IntKind.u8.wrap (x : Int)) 128))] = bD (UInt8.ofNat (x % 128 + 128)) := bD_of (by rw [wrap_u8_mod]; exact or128 x)
    have e2 : (x : Int).fdiv (2 ^ min 7 64) = ((x / 128 : Nat) : Int) := by
      rw [show ((2 : Int) ^ min 7 64) = 128 by decide, Int.fdiv_eq_ediv_of_nonneg _ (by omega)]; omega
    have e3 : List.take pre.length (List.map bD pre) ++ [bD (UInt8.ofNat (x % 128 + 128))] = (pre ++ [UInt8.ofNat (x % 128 + 128)]).map bD := by
      rw [List.take_of_length_le (by simp)]; simp
    rw [e1, e2, e3]
    refine ⟨_, Heap.le_upd (Heap.le_new (Heap.le_refl _) hb1) _ _, ⟨hdf, pre ++ [UInt8.ofNat (x % 128 + 128)], x / 128, b2, o2, by rw [hpre, put_step x (by omega) hx]; simp, by omega, rfl, ?_, hb2, rfl⟩, by simp only [intD]; omega⟩
    rw [List.length_append]
    rfl
  · (repeat (first | refine W_seq ?_ | refine W_block ?_ | refine W_skip ?_ | refine W_exit ?_ | refine W_ret ?_ | refine W_label ?_ | ((first | refine W_ops (by kernel_rfl) ?_ | refine W_if ?_ | refine WL_go (by kernel_rfl) (by kernel_rfl) ?_); simp (maxSteps := 4000000) only [vB, vT, vZ, vcOps, isCall, mmV, lkV, muV, keyVal, keyVals, mget_nil, ↓selV_eq, eqK, stepOp, clV, biV, bnU, nilU, binV, bInt, bStr, bNilP, bNilS, bNilM, nilOp, D.nilPtr, D.nilSl, D.nilMap, isBoolTy, unV, cwV, cvV, elsP, partV, fieldsOf, fieldV, faV, iaV, ixV, ldC, ldV, stV, D.cells, putAt, bxV, alV, bldD, placesOf, allSized, bdV, bsV, rowsD, mkV, bdN, slV, newsP, TD.notInt, TD.agg, azV, clrV, cpyV, cpV, lenV, minV, maxV, ncV, exV, condV, retV, thenQ, blockQ, Value.oneCell', forall_const, true_implies, ne_eq, reduceCtorEq, false_implies, eq_self, if_true, if_false, ↓reduceIte, Nat.reduceEqDiff, Int.reduceLE, Int.reduceLT, Int.reduceNeg, Int.reduceToNat, Nat.reduceAdd, Nat.reduceMul, Nat.reduceLeDiff, Nat.reduceMod, Nat.reduceSub, Int.reduceEq, Int.reduceNe, Int.reduceAdd, Int.reduceSub, Int.reduceMul, implies_true, apV, h0, h3, hH])))
    intro b1 hb1
    obtain ⟨hne, hb1⟩ := Heap.upd_none.1 hb1
    simp (maxSteps := 4000000) only [vB, vT, vZ, vcOps, isCall, mmV, lkV, muV, keyVal, keyVals, mget_nil, ↓selV_eq, eqK, stepOp, clV, biV, bnU, nilU, binV, bInt, bStr, bNilP, bNilS, bNilM, nilOp, D.nilPtr, D.nilSl, D.nilMap, isBoolTy, unV, cwV, cvV, elsP, partV, fieldsOf, fieldV, faV, iaV, ixV, ldC, ldV, stV, D.cells, putAt, bxV, alV, bldD, placesOf, allSized, bdV, bsV, rowsD, mkV, bdN, slV, newsP, TD.notInt, TD.agg, azV, clrV, cpyV, cpV, lenV, minV, maxV, ncV, exV, condV, retV, thenQ, blockQ, Value.oneCell', forall_const, true_implies, ne_eq, reduceCtorEq, false_implies, eq_self, if_true, if_false, ↓reduceIte, Nat.reduceEqDiff, Int.reduceLE, Int.reduceLT, Int.reduceNeg, Int.reduceToNat, Nat.reduceAdd, Nat.reduceMul, Nat.reduceLeDiff, Nat.reduceMod, Nat.reduceSub, Int.reduceEq, Int.reduceNe, Int.reduceAdd, Int.reduceSub, Int.reduceMul, implies_true, apV, Heap.upd_ne' hne, Heap.del_upd_ne (Ne.symm hne), Heap.del_none hb]
    refine ⟨by omega, fun b2 o2 hb2 => ?_⟩
    obtain ⟨hne2, hb2⟩ := Heap.upd_none.1 hb2
    (repeat (first | refine W_seq ?_ | refine W_block ?_ | refine W_skip ?_ | refine W_exit ?_ | refine W_ret ?_ | refine W_label ?_ | ((first | refine W_ops (by kernel_rfl) ?_ | refine W_if ?_ | refine WL_go (by kernel_rfl) (by kernel_rfl) ?_); simp (maxSteps := 4000000) only [vB, vT, vZ, vcOps, isCall, mmV, lkV, muV, keyVal, keyVals, mget_nil, ↓selV_eq, eqK, stepOp, clV, biV, bnU, nilU, binV, bInt, bStr, bNilP, bNilS, bNilM, nilOp, D.nilPtr, D.nilSl, D.nilMap, isBoolTy, unV, cwV, cvV, elsP, partV, fieldsOf, fieldV, faV, iaV, ixV, ldC, ldV, stV, D.cells, putAt, bxV, alV, bldD, placesOf, allSized, bdV, bsV, rowsD, mkV, bdN, slV, newsP, TD.notInt, TD.agg, azV, clrV, cpyV, cpV, lenV, minV, maxV, ncV, exV, condV, retV, thenQ, blockQ, Value.oneCell', forall_const, true_implies, ne_eq, reduceCtorEq, false_implies, eq_self, if_true, if_false, ↓reduceIte, Nat.reduceEqDiff, Int.reduceLE, Int.reduceLT, Int.reduceNeg, Int.reduceToNat, Nat.reduceAdd, Nat.reduceMul, Nat.reduceLeDiff, Nat.reduceMod, Nat.reduceSub, Int.reduceEq, Int.reduceNe, Int.reduceAdd, Int.reduceSub, Int.reduceMul, implies_true, apV, h0, h3, hH])))
    refine hret _ _ (by first | exact .inr rfl | exact .inl rfl) (by first | rfl | assumption | (simp only [put_df, withH_df]; assumption)) ?_; simp (maxSteps := 4000000) only [vB, vT, vZ, vcOps, isCall, mmV, lkV, muV, keyVal, keyVals, mget_nil, ↓selV_eq, eqK, stepOp, clV, biV, bnU, nilU, binV, bInt, bStr, bNilP, bNilS, bNilM, nilOp, D.nilPtr, D.nilSl, D.nilMap, isBoolTy, unV, cwV, cvV, elsP, partV, fieldsOf, fieldV, faV, iaV, ixV, ldC, ldV, stV, D.cells, putAt, bxV, alV, bldD, placesOf, allSized, bdV, bsV, rowsD, mkV, bdN, slV, newsP, TD.notInt, TD.agg, azV, clrV, cpyV, cpV, lenV, minV, maxV, ncV, exV, condV, retV, thenQ, blockQ, Value.oneCell', forall_const, true_implies, ne_eq, reduceCtorEq, false_implies, eq_self, if_true, if_false, ↓reduceIte, Nat.reduceEqDiff, Int.reduceLE, Int.reduceLT, Int.reduceNeg, Int.reduceToNat, Nat.reduceAdd, Nat.reduceMul, Nat.reduceLeDiff, Nat.reduceMod, Nat.reduceSub, Int.reduceEq, Int.reduceNe, Int.reduceAdd, Int.reduceSub, Int.reduceMul, implies_true, apV, h0]
    have hp : put x = [UInt8.ofNat x] := put_small x (by omega)
    rw [bD_of (c := UInt8.ofNat x) (by rw [wrap_u8_mod, UInt8.toNat_ofNat']; omega)]
    have e3 : List.take pre.length (List.map bD pre) ++ [bD (UInt8.ofNat x)] = (put n).map bD := by
      rw [List.take_of_length_le (by simp), hpre, hp]; simp
    rw [e3]
    refine ⟨_, Heap.le_upd (Heap.le_new (Heap.le_refl _) hb1) _ _, b2, o2, hb2, ?_, rfl⟩
    rw [hpre, hp, List.length_append]
    rfl
theorem rput_D (k : Nat) : ∀ (n : Nat) (H : Heap), n < 128 ^ k → n < 18446744073709551616 → Does Tryd.prog 59 [.val (.int .u64 n)] H (PutR n H) := by
  have small : ∀ (n : Nat) (H : Heap), n < 128 → Does Tryd.prog 59 [.val (.int .u64 n)] H (PutR n H) := by
    intro n H hn
    refine does_of _ _ Tryd.func59 rfl rfl Tryd.ntmps59 Tryd.results59 (by simp only [List.length_cons, List.length_nil]; omega) fun w0 Q hret => ?_
    (repeat (first | refine W_seq ?_ | refine W_block ?_ | refine W_skip ?_ | refine W_exit ?_ | refine W_ret ?_ | refine W_label ?_ | ((first | refine W_ops (by kernel_rfl) ?_ | refine W_if ?_ | refine WL_go (by kernel_rfl) (by kernel_rfl) ?_); simp (maxSteps := 4000000) only [vB, vT, vZ, vcOps, isCall, mmV, lkV, muV, keyVal, keyVals, mget_nil, ↓selV_eq, eqK, stepOp, clV, biV, bnU, nilU, binV, bInt, bStr, bNilP, bNilS, bNilM, nilOp, D.nilPtr, D.nilSl, D.nilMap, isBoolTy, unV, cwV, cvV, elsP, partV, fieldsOf, fieldV, faV, iaV, ixV, ldC, ldV, stV, D.cells, putAt, bxV, alV, bldD, placesOf, allSized, bdV, bsV, rowsD, mkV, bdN, slV, newsP, TD.notInt, TD.agg, azV, clrV, cpyV, cpV, lenV, minV, maxV, ncV, exV, condV, retV, thenQ, blockQ, Value.oneCell', forall_const, true_implies, ne_eq, reduceCtorEq, false_implies, eq_self, if_true, if_false, ↓reduceIte, Nat.reduceEqDiff, Int.reduceLE, Int.reduceLT, Int.reduceNeg, Int.reduceToNat, Nat.reduceAdd, Nat.reduceMul, Nat.reduceLeDiff, Nat.reduceMod, Nat.reduceSub, Int.reduceEq, Int.reduceNe, Int.reduceAdd, Int.reduceSub, Int.reduceMul, implies_true, apV])))
    refine ⟨fun h => ?_, fun h => absurd h (by omega)⟩
    (repeat (first | refine W_seq ?_ | refine W_block ?_ | refine W_skip ?_ | refine W_exit ?_ | refine W_ret ?_ | refine W_label ?_ | ((first | refine W_ops (by kernel_rfl) ?_ | refine W_if ?_ | refine WL_go (by kernel_rfl) (by kernel_rfl) ?_); simp (maxSteps := 4000000) only [vB, vT, vZ, vcOps, isCall, mmV, lkV, muV, keyVal, keyVals, mget_nil, ↓selV_eq, eqK, stepOp, clV, biV, bnU, nilU, binV, bInt, bStr, bNilP, bNilS, bNilM, nilOp, D.nilPtr, D.nilSl, D.nilMap, isBoolTy, unV, cwV, cvV, elsP, partV, fieldsOf, fieldV, faV, iaV, ixV, ldC, ldV, stV, D.cells, putAt, bxV, alV, bldD, placesOf, allSized, bdV, bsV, rowsD, mkV, bdN, slV, newsP, TD.notInt, TD.agg, azV, clrV, cpyV, cpV, lenV, minV, maxV, ncV, exV, condV, retV, thenQ, blockQ, Value.oneCell', forall_const, true_implies, ne_eq, reduceCtorEq, false_implies, eq_self, if_true, if_false, ↓reduceIte, Nat.reduceEqDiff, Int.reduceLE, Int.reduceLT, Int.reduceNeg, Int.reduceToNat, Nat.reduceAdd, Nat.reduceMul, Nat.reduceLeDiff, Nat.reduceMod, Nat.reduceSub, Int.reduceEq, Int.reduceNe, Int.reduceAdd, Int.reduceSub, Int.reduceMul, implies_true, apV])))
    intro b hb
    (repeat (first | refine W_seq ?_ | refine W_block ?_ | refine W_skip ?_ | refine W_exit ?_ | refine W_ret ?_ | refine W_label ?_ | ((first | refine W_ops (by kernel_rfl) ?_ | refine W_if ?_ | refine WL_go (by kernel_rfl) (by kernel_rfl) ?_); simp (maxSteps := 4000000) only [vB, vT, vZ, vcOps, isCall, mmV, lkV, muV, keyVal, keyVals, mget_nil, ↓selV_eq, eqK, stepOp, clV, biV, bnU, nilU, binV, bInt, bStr, bNilP, bNilS, bNilM, nilOp, D.nilPtr, D.nilSl, D.nilMap, isBoolTy, unV, cwV, cvV, elsP, partV, fieldsOf, fieldV, faV, iaV, ixV, ldC, ldV, stV, D.cells, putAt, bxV, alV, bldD, placesOf, allSized, bdV, bsV, rowsD, mkV, bdN, slV, newsP, TD.notInt, TD.agg, azV, clrV, cpyV, cpV, lenV, minV, maxV, ncV, exV, condV, retV, thenQ, blockQ, Value.oneCell', forall_const, true_implies, ne_eq, reduceCtorEq, false_implies, eq_self, if_true, if_false, ↓reduceIte, Nat.reduceEqDiff, Int.reduceLE, Int.reduceLT, Int.reduceNeg, Int.reduceToNat, Nat.reduceAdd, Nat.reduceMul, Nat.reduceLeDiff, Nat.reduceMod, Nat.reduceSub, Int.reduceEq, Int.reduceNe, Int.reduceAdd, Int.reduceSub, Int.reduceMul, implies_true, apV])))
    refine hret _ _ (by first | exact .inr rfl | exact .inl rfl) rfl ?_; simp (maxSteps := 4000000) only [vB, vT, vZ, vcOps, isCall, mmV, lkV, muV, keyVal, keyVals, mget_nil, ↓selV_eq, eqK, stepOp, clV, biV, bnU, nilU, binV, bInt, bStr, bNilP, bNilS, bNilM, nilOp, D.nilPtr, D.nilSl, D.nilMap, isBoolTy, unV, cwV, cvV, elsP, partV, fieldsOf, fieldV, faV, iaV, ixV, ldC, ldV, stV, D.cells, putAt, bxV, alV, bldD, placesOf, allSized, bdV, bsV, rowsD, mkV, bdN, slV, newsP, TD.notInt, TD.agg, azV, clrV, cpyV, cpV, lenV, minV, maxV, ncV, exV, condV, retV, thenQ, blockQ, Value.oneCell', forall_const, true_implies, ne_eq, reduceCtorEq, false_implies, eq_self, if_true, if_false, ↓reduceIte, Nat.reduceEqDiff, Int.reduceLE, Int.reduceLT, Int.reduceNeg, Int.reduceToNat, Nat.reduceAdd, Nat.reduceMul, Nat.reduceLeDiff, Nat.reduceMod, Nat.reduceSub, Int.reduceEq, Int.reduceNe, Int.reduceAdd, Int.reduceSub, Int.reduceMul, implies_true, apV]
    rw [bD_of (c := UInt8.ofNat n) (by rw [wrap_u8_mod, UInt8.toNat_ofNat']; omega)]
    exact ⟨_, Heap.le_refl _, b, 0, hb, by rw [put_small n hn]; rfl, by rw [put_small n hn]; rfl⟩
  induction k with
  | zero => exact fun n H hk _ => small n H (by omega)
  | succ k ih =>
    intro n H hk hn
    by_cases h128 : n < 128
    · exact small n H h128
    · refine does_of _ _ Tryd.func59 rfl rfl Tryd.ntmps59 Tryd.results59 (by simp only [List.length_cons, List.length_nil]; omega) fun w0 Q hret => ?_
      (repeat (first | refine W_seq ?_ | refine W_block ?_ | refine W_skip ?_ | refine W_exit ?_ | refine W_ret ?_ | refine W_label ?_ | ((first | refine W_ops (by kernel_rfl) ?_ | refine W_if ?_ | refine WL_go (by kernel_rfl) (by kernel_rfl) ?_); simp (maxSteps := 4000000) only [vB, vT, vZ, vcOps, isCall, mmV, lkV, muV, keyVal, keyVals, mget_nil, ↓selV_eq, eqK, stepOp, clV, biV, bnU, nilU, binV, bInt, bStr, bNilP, bNilS, bNilM, nilOp, D.nilPtr, D.nilSl, D.nilMap, isBoolTy, unV, cwV, cvV, elsP, partV, fieldsOf, fieldV, faV, iaV, ixV, ldC, ldV, stV, D.cells, putAt, bxV, alV, bldD, placesOf, allSized, bdV, bsV, rowsD, mkV, bdN, slV, newsP, TD.notInt, TD.agg, azV, clrV, cpyV, cpV, lenV, minV, maxV, ncV, exV, condV, retV, thenQ, blockQ, Value.oneCell', forall_const, true_implies, ne_eq, reduceCtorEq, false_implies, eq_self, if_true, if_false, ↓reduceIte, Nat.reduceEqDiff, Int.reduceLE, Int.reduceLT, Int.reduceNeg, Int.reduceToNat, Nat.reduceAdd, Nat.reduceMul, Nat.reduceLeDiff, Nat.reduceMod, Nat.reduceSub, Int.reduceEq, Int.reduceNe, Int.reduceAdd, Int.reduceSub, Int.reduceMul, implies_true, apV])))
      refine ⟨fun h => absurd h (by omega), fun h => ?_⟩
      have e1 : IntKind.u64.wrap ((n : Int).tdiv 128) = ((n / 128 : Nat) : Int) := by
        rw [Int.tdiv_eq_ediv_of_nonneg (by omega), wrap_u64_mod]; omega
      have e2 : [D.val (.int .u8 (IntKind.u8.wrap (IntKind.u64.wrap ((n : Int).tmod 128 + 128))))] = bD (UInt8.ofNat (n % 128 + 128)) := bD_of (by
        rw [Int.tmod_eq_emod_of_nonneg (by omega), wrap_u64_mod, wrap_u8_mod, UInt8.toNat_ofNat']; omega)
      (repeat (first | refine W_seq ?_ | refine W_block ?_ | refine W_skip ?_ | refine W_exit ?_ | refine W_ret ?_ | refine W_label ?_ | ((first | refine W_ops (by kernel_rfl) ?_ | refine W_if ?_ | refine WL_go (by kernel_rfl) (by kernel_rfl) ?_); simp (maxSteps := 4000000) only [vB, vT, vZ, vcOps, isCall, mmV, lkV, muV, keyVal, keyVals, mget_nil, ↓selV_eq, eqK, stepOp, clV, biV, bnU, nilU, binV, bInt, bStr, bNilP, bNilS, bNilM, nilOp, D.nilPtr, D.nilSl, D.nilMap, isBoolTy, unV, cwV, cvV, elsP, partV, fieldsOf, fieldV, faV, iaV, ixV, ldC, ldV, stV, D.cells, putAt, bxV, alV, bldD, placesOf, allSized, bdV, bsV, rowsD, mkV, bdN, slV, newsP, TD.notInt, TD.agg, azV, clrV, cpyV, cpV, lenV, minV, maxV, ncV, exV, condV, retV, thenQ, blockQ, Value.oneCell', forall_const, true_implies, ne_eq, reduceCtorEq, false_implies, eq_self, if_true, if_false, ↓reduceIte, Nat.reduceEqDiff, Int.reduceLE, Int.reduceLT, Int.reduceNeg, Int.reduceToNat, Nat.reduceAdd, Nat.reduceMul, Nat.reduceLeDiff, Nat.reduceMod, Nat.reduceSub, Int.reduceEq, Int.reduceNe, Int.reduceAdd, Int.reduceSub, Int.reduceMul, implies_true, apV])))
      rw [e1, e2]
      intro b hb
      have hp := put_length (n / 128) (by omega)
      refine (ih (n / 128) _ (by rw [Nat.pow_succ] at hk; omega) (by omega)).mono ?_
      rintro d H1 ⟨b1, o1, hb1, rfl, rfl⟩
      obtain ⟨hne, hb1⟩ := Heap.upd_none.1 hb1
      (repeat (first | refine W_seq ?_ | refine W_block ?_ | refine W_skip ?_ | refine W_exit ?_ | refine W_ret ?_ | refine W_label ?_ | ((first | refine W_ops (by kernel_rfl) ?_ | refine W_if ?_ | refine WL_go (by kernel_rfl) (by kernel_rfl) ?_); simp (maxSteps := 4000000) only [vB, vT, vZ, vcOps, isCall, mmV, lkV, muV, keyVal, keyVals, mget_nil, ↓selV_eq, eqK, stepOp, clV, biV, bnU, nilU, binV, bInt, bStr, bNilP, bNilS, bNilM, nilOp, D.nilPtr, D.nilSl, D.nilMap, isBoolTy, unV, cwV, cvV, elsP, partV, fieldsOf, fieldV, faV, iaV, ixV, ldC, ldV, stV, D.cells, putAt, bxV, alV, bldD, placesOf, allSized, bdV, bsV, rowsD, mkV, bdN, slV, newsP, TD.notInt, TD.agg, azV, clrV, cpyV, cpV, lenV, minV, maxV, ncV, exV, condV, retV, thenQ, blockQ, Value.oneCell', forall_const, true_implies, ne_eq, reduceCtorEq, false_implies, eq_self, if_true, if_false, ↓reduceIte, Nat.reduceEqDiff, Int.reduceLE, Int.reduceLT, Int.reduceNeg, Int.reduceToNat, Nat.reduceAdd, Nat.reduceMul, Nat.reduceLeDiff, Nat.reduceMod, Nat.reduceSub, Int.reduceEq, Int.reduceNe, Int.reduceAdd, Int.reduceSub, Int.reduceMul, implies_true, apV])))
      have htk : List.take (put (n / 128)).length (List.map bD (put (n / 128))) = List.map bD (put (n / 128)) := List.take_of_length_le (by simp)
      simp (maxSteps := 4000000) only [vB, vT, vZ, vcOps, isCall, mmV, lkV, muV, keyVal, keyVals, mget_nil, ↓selV_eq, eqK, stepOp, clV, biV, bnU, nilU, binV, bInt, bStr, bNilP, bNilS, bNilM, nilOp, D.nilPtr, D.nilSl, D.nilMap, isBoolTy, unV, cwV, cvV, elsP, partV, fieldsOf, fieldV, faV, iaV, ixV, ldC, ldV, stV, D.cells, putAt, bxV, alV, bldD, placesOf, allSized, bdV, bsV, rowsD, mkV, bdN, slV, newsP, TD.notInt, TD.agg, azV, clrV, cpyV, cpV, lenV, minV, maxV, ncV, exV, condV, retV, thenQ, blockQ, Value.oneCell', forall_const, true_implies, ne_eq, reduceCtorEq, false_implies, eq_self, if_true, if_false, ↓reduceIte, Nat.reduceEqDiff, Int.reduceLE, Int.reduceLT, Int.reduceNeg, Int.reduceToNat, Nat.reduceAdd, Nat.reduceMul, Nat.reduceLeDiff, Nat.reduceMod, Nat.reduceSub, Int.reduceEq, Int.reduceNe, Int.reduceAdd, Int.reduceSub, Int.reduceMul, implies_true, apV, htk, Heap.upd_ne' hne, Heap.del_upd_ne (Ne.symm hne), Heap.del_none hb]
      refine ⟨by omega, ?_⟩
      intro b2 o2 hb2
      obtain ⟨hne2, hb2⟩ := Heap.upd_none.1 hb2
      (repeat (first | refine W_seq ?_ | refine W_block ?_ | refine W_skip ?_ | refine W_exit ?_ | refine W_ret ?_ | refine W_label ?_ | ((first | refine W_ops (by kernel_rfl) ?_ | refine W_if ?_ | refine WL_go (by kernel_rfl) (by kernel_rfl) ?_); simp (maxSteps := 4000000) only [vB, vT, vZ, vcOps, isCall, mmV, lkV, muV, keyVal, keyVals, mget_nil, ↓selV_eq, eqK, stepOp, clV, biV, bnU, nilU, binV, bInt, bStr, bNilP, bNilS, bNilM, nilOp, D.nilPtr, D.nilSl, D.nilMap, isBoolTy, unV, cwV, cvV, elsP, partV, fieldsOf, fieldV, faV, iaV, ixV, ldC, ldV, stV, D.cells, putAt, bxV, alV, bldD, placesOf, allSized, bdV, bsV, rowsD, mkV, bdN, slV, newsP, TD.notInt, TD.agg, azV, clrV, cpyV, cpV, lenV, minV, maxV, ncV, exV, condV, retV, thenQ, blockQ, Value.oneCell', forall_const, true_implies, ne_eq, reduceCtorEq, false_implies, eq_self, if_true, if_false, ↓reduceIte, Nat.reduceEqDiff, Int.reduceLE, Int.reduceLT, Int.reduceNeg, Int.reduceToNat, Nat.reduceAdd, Nat.reduceMul, Nat.reduceLeDiff, Nat.reduceMod, Nat.reduceSub, Int.reduceEq, Int.reduceNe, Int.reduceAdd, Int.reduceSub, Int.reduceMul, implies_true, apV])))
      refine hret _ _ (by first | exact .inr rfl | exact .inl rfl) rfl ?_; simp (maxSteps := 4000000) only [vB, vT, vZ, vcOps, isCall, mmV, lkV, muV, keyVal, keyVals, mget_nil, ↓selV_eq, eqK, stepOp, clV, biV, bnU, nilU, binV, bInt, bStr, bNilP, bNilS, bNilM, nilOp, D.nilPtr, D.nilSl, D.nilMap, isBoolTy, unV, cwV, cvV, elsP, partV, fieldsOf, fieldV, faV, iaV, ixV, ldC, ldV, stV, D.cells, putAt, bxV, alV, bldD, placesOf, allSized, bdV, bsV, rowsD, mkV, bdN, slV, newsP, TD.notInt, TD.agg, azV, clrV, cpyV, cpV, lenV, minV, maxV, ncV, exV, condV, retV, thenQ, blockQ, Value.oneCell', forall_const, true_implies, ne_eq, reduceCtorEq, false_implies, eq_self, if_true, if_false, ↓reduceIte, Nat.reduceEqDiff, Int.reduceLE, Int.reduceLT, Int.reduceNeg, Int.reduceToNat, Nat.reduceAdd, Nat.reduceMul, Nat.reduceLeDiff, Nat.reduceMod, Nat.reduceSub, Int.reduceEq, Int.reduceNe, Int.reduceAdd, Int.reduceSub, Int.reduceMul, implies_true, apV]
      refine ⟨H.upd b2 (.row 5 o2 1 ((put n).map bD)), ?_, b2, o2, hb2, ?_, rfl⟩
      · rw [put_step n (by omega) hn]
        exact Heap.le_upd (Heap.le_new (Heap.le_refl _) hb1) _ _
      · rw [put_step n (by omega) hn, List.length_cons, Nat.add_comm]
theorem rput_N (n : Nat) (H : Heap) (hn : n < 18446744073709551616) : Does Tryd.prog 59 [.val (.int .u64 n)] H (PutR n H) := rput_D 10 n H (by omega) hn
theorem get_N (l : List UInt8) (a : Int) (hl : l.length ≤ 281474976706560) : Does Tryd.prog 63 [.seq 1 (l.map bD), .val (.int .i64 a)] .none fun d _ => d = .tup [.val (.int .u64 ((getR l a).1 : Nat)), .val (.int .i64 (getR l a).2.1), .val (.int .i64 ((getR l a).2.2 : Nat))] :=
  And.intro (ent_of Tryd.func63 rfl rfl) fun w vs hvs hH => by
    simp only [valsAll] at hvs
    obtain ⟨u, _, rfl, h1, u2, _, rfl, h2, rfl⟩ := hvs
    have e2 := is_val h2
    subst e2
    obtain ⟨A, c, rfl, hlc, hR⟩ := is_els h1
    refine (get_any w w.heap.size A c l a hR (Nat.le_refl _) hl hlc).mono ?_
    rintro e w' ⟨rfl, hb⟩
    refine ⟨_, _, .none, rfl, ?_, fun b x hb => (by cases hb), ev_below hb, rfl⟩
    simp only [D.is, valsAll, res3]
    exact ⟨_, rfl, _, _, rfl, rfl, _, _, rfl, rfl, _, _, rfl, rfl, rfl⟩
theorem get_at {H : Heap} {d : D} {l : List UInt8} {a : Int} {n : Nat} {k : Int} {e : Nat} (he : elsP H 1 d (· = l.map bD)) (hl : l.length ≤ 281474976706560) (hg : getR l a = (n, k, e)) :
    Does Tryd.prog 63 [d, .val (.int .i64 a)] H fun r H' => r = .tup [.val (.int .u64 (n : Nat)), .val (.int .i64 k), .val (.int .i64 (e : Nat))] ∧ H = H' := by
  have h := get_N l a hl
  rw [hg] at h
  exact pure_D h rfl (vws2 (vw_els he) (vw_refl _ _))
theorem equal_at {H : Heap} {x y : D} {l m : List UInt8} (hx : elsP H 1 x (· = l.map bD)) (hy : elsP H 1 y (· = m.map bD)) :
    Does Tryd.prog 22 [x, y] H fun r H' => r = .val (.bool (decide (l = m))) ∧ H = H' := pure_D (equal_N l m) rfl (vws2 (vw_els hx) (vw_els hy))
end Go.Proofs.YtiakpcnglihnbaaDoor
/- Decoding and encoding are inverse: plain mathematics of chapter 1. -/
namespace Go.Proofs.YtiakpcnglihnbaaDoor
theorem p64 (k : Nat) (h : k + 1 ≤ 9) : 2 ^ (64 - 7 * k) = 128 * 2 ^ (64 - 7 * (k + 1)) := by
  rw [show 64 - 7 * k = 7 + (64 - 7 * (k + 1)) by omega, Nat.pow_add]
theorem p64_le (k : Nat) (h : k ≤ 9) : 2 ^ (64 - 7 * k) ≤ 18446744073709551616 := Nat.pow_le_pow_right (n := 2) (j := 64) (by omega) (by omega)
theorem p64_ge (k : Nat) (h : k ≤ 8) : 128 ≤ 2 ^ (64 - 7 * k) := Nat.pow_le_pow_right (n := 2) (i := 7) (by omega) (by omega)
theorem dec_acc : ∀ (l : List UInt8) (k n m j : Nat), k ≤ 9 → dec k n l = (m, j, 0) →
    ∃ (x : Nat) (r : List UInt8), l = put x ++ r ∧ m = n + x * 128 ^ k ∧ j = k + (put x).length ∧ x < 2 ^ (64 - 7 * k) ∧ (0 < k → 0 < x)
  | [], k, n, m, j, _, h => by simp [dec] at h
  | c :: l, k, n, m, j, hk, h => by
    unfold dec at h
    by_cases h1 : k = 9 ∧ 1 < c.toNat
    · rw [if_pos h1] at h; simp at h
    rw [if_neg h1] at h
    by_cases h2 : c.toNat = 0 ∧ 0 < k
    · rw [if_pos h2] at h; simp at h
    rw [if_neg h2] at h
    by_cases h3 : c.toNat < 128
    · rw [if_pos h3] at h
      simp only [Prod.mk.injEq, and_true] at h
      obtain ⟨rfl, rfl⟩ := h
      refine ⟨c.toNat, l, by rw [put_small _ h3]; simp, rfl, by rw [put_small _ h3]; rfl, ?_, by omega⟩
      by_cases h9 : k = 9
      · subst h9; simp; omega
      · exact Nat.lt_of_lt_of_le h3 (p64_ge k (by omega))
    · rw [if_neg h3] at h
      have hk8 : k ≤ 8 := by omega
      obtain ⟨x, r, rfl, rfl, rfl, hx, h0⟩ := dec_acc l (k + 1) _ m j (by omega) h
      have h0 := h0 (by omega)
      have hc := c.toNat_lt
      have hb : c.toNat % 128 + 128 * x < 2 ^ (64 - 7 * k) := by rw [p64 k (by omega)]; omega
      have hb2 := p64_le k (by omega)
      have hput : put (c.toNat % 128 + 128 * x) = c :: put x := by
        rw [put_step _ (by omega) (by omega)]
        congr 1
        · rw [show (c.toNat % 128 + 128 * x) % 128 + 128 = c.toNat by omega]; exact UInt8.ofNat_toNat
        · congr 1; omega
      refine ⟨c.toNat % 128 + 128 * x, r, by rw [hput]; rfl, ?_, by rw [hput, List.length_cons]; omega, hb, by omega⟩
      rw [Nat.pow_succ, Nat.add_mul, Nat.add_assoc]
      congr 2
      rw [Nat.mul_comm (128 ^ k), ← Nat.mul_assoc, Nat.mul_comm x]
theorem dec_put : ∀ (f x k n : Nat) (r : List UInt8), x < 128 ^ f → k ≤ 9 → x < 2 ^ (64 - 7 * k) → (0 < k → 0 < x) → dec k n (put x ++ r) = (n + x * 128 ^ k, k + (put x).length, 0) := by
  intro f
  induction f with
  | zero =>
    intro x k n r hf hk hx h0
    have hx0 : x = 0 := by simpa using hf
    subst hx0
    have hk0 : k = 0 := by omega
    subst hk0
    simp [put_small, dec]
  | succ f ih =>
    intro x k n r hf hk hx h0
    by_cases h : x < 128
    · rw [put_small x h]
      have e : (UInt8.ofNat x).toNat = x := by rw [UInt8.toNat_ofNat']; omega
      simp only [List.cons_append, dec, e, List.length_singleton]
      rw [if_neg (by rintro ⟨rfl, h2⟩; simp at hx; omega), if_neg (by omega), if_pos h]
    · have hk8 : k ≤ 8 := by
        by_cases h9 : k = 9
        · subst h9; simp at hx; omega
        · omega
      have h64 := p64_le k hk
      rw [put_step x (by omega) (by omega)]
      have e : (UInt8.ofNat (x % 128 + 128)).toNat = x % 128 + 128 := by rw [UInt8.toNat_ofNat']; omega
      simp only [List.cons_append, dec, e, List.length_cons]
      rw [if_neg (by omega), if_neg (by omega), if_neg (by omega)]
      have hp := p64 k (by omega)
      rw [ih (x / 128) (k + 1) _ r (by rw [Nat.pow_succ] at hf; omega) (by omega) (by omega) (by omega)]
      have e2 : (x % 128 + 128) % 128 = x % 128 := by omega
      rw [e2]
      refine Prod.ext ?_ (Prod.ext (by simp; omega) rfl)
      simp only
      have e3 : x * 128 ^ k = (x % 128) * 128 ^ k + (x / 128) * 128 ^ (k + 1) := by
        rw [Nat.pow_succ, Nat.mul_comm (128 ^ k), ← Nat.mul_assoc, ← Nat.add_mul]
        congr 1; omega
      omega
theorem dec_cut : ∀ (f x k n i : Nat), x < 128 ^ f → k ≤ 9 → x < 2 ^ (64 - 7 * k) → i < (put x).length → dec k n ((put x).take i) = (0, 0, 4) := by
  intro f
  induction f with
  | zero =>
    intro x k n i hf hk hx hi
    have hx0 : x = 0 := by simpa using hf
    subst hx0
    rw [put_small 0 (by omega)] at hi ⊢
    have : i = 0 := by simpa using hi
    subst this
    rfl
  | succ f ih =>
    intro x k n i hf hk hx hi
    cases i with
    | zero => rfl
    | succ i =>
      by_cases h : x < 128
      · rw [put_small x h] at hi; simp at hi
      · have hk8 : k ≤ 8 := by
          by_cases h9 : k = 9
          · subst h9; simp at hx; omega
          · omega
        have h64 := p64_le k hk
        rw [put_step x (by omega) (by omega), List.length_cons] at hi
        rw [put_step x (by omega) (by omega)]
        have e : (UInt8.ofNat (x % 128 + 128)).toNat = x % 128 + 128 := by rw [UInt8.toNat_ofNat']; omega
        simp only [List.take_succ_cons, dec, e]
        rw [if_neg (by omega), if_neg (by omega), if_neg (by omega)]
        have hp := p64 k (by omega)
        exact ih (x / 128) (k + 1) _ i (by rw [Nat.pow_succ] at hf; omega) (by omega) (by omega) (by omega)
theorem getR_acc {l : List UInt8} {n : Nat} {k : Int} (h : getR l 0 = (n, k, 0)) : ∃ r, l = put n ++ r ∧ k = (put n).length ∧ n < 18446744073709551616 := by
  unfold getR at h
  rw [if_neg (by omega)] at h
  simp only [Int.toNat_zero, List.drop_zero, Int.zero_add] at h
  obtain ⟨⟨a, b, c⟩, hd⟩ : ∃ x, dec 0 0 l = x := ⟨_, rfl⟩
  rw [hd] at h
  simp only at h
  by_cases hc : c = 0
  · subst hc
    rw [if_pos rfl] at h
    obtain ⟨x, r, rfl, rfl, rfl, hx, _⟩ := dec_acc l 0 0 a b (by omega) hd
    simp at h
    obtain ⟨rfl, rfl⟩ := h
    exact ⟨r, rfl, rfl, hx⟩
  · rw [if_neg hc] at h
    simp only [Prod.mk.injEq] at h
    exact absurd h.2.2 hc
theorem getR_err {l : List UInt8} {a : Int} {n : Nat} {k : Int} {e : Nat} (h : getR l a = (n, k, e)) (he : e ≠ 0) : n = 0 ∧ k = 0 := by
  unfold getR at h
  split at h
  · simp only [Prod.mk.injEq] at h; exact ⟨h.1.symm, h.2.1.symm⟩
  · simp only at h
    split at h
    · simp only [Prod.mk.injEq] at h; exact absurd h.2.2.symm he
    · simp only [Prod.mk.injEq] at h; exact ⟨h.1.symm, h.2.1.symm⟩
theorem getR_put (pre r : List UInt8) (n : Nat) (hn : n < 18446744073709551616) : getR (pre ++ (put n ++ r)) pre.length = (n, (pre.length : Int) + (put n).length, 0) := by
  unfold getR
  rw [if_neg (by simp; omega), Int.toNat_natCast, List.drop_left]
  rw [dec_put 10 n 0 0 r (by omega) (by omega) hn (by omega)]
  simp
theorem getR_cut (n i : Nat) (hn : n < 18446744073709551616) (hi : i < (put n).length) : getR ((put n).take i) 0 = (0, 0, 4) := by
  unfold getR
  rw [if_neg (by omega)]
  simp only [Int.toNat_zero, List.drop_zero]
  rw [dec_cut 10 n 0 0 i (by omega) (by omega) hn hi]
  rfl
end Go.Proofs.YtiakpcnglihnbaaDoor
