/- The walk of varint.Get. -/
import Derived.Test.YtdcnpkpibbefhaaVarGetM
import Derived.Test.YtdcnpkpibbefhaaVarReg
import Derived.Test.YtdcnpkpibbefhaaRoundStill
namespace Go.Proofs.Ytdcnpkpibbefhaa
open Go.RowKit Go.Shelf
attribute [local go_sem] Oper.semAt_some
/-- The cells of the results. -/
def Res (h : Nat) (W : World) (x y z : Int) : Prop := W.cell? ⟨h + 1, 0, none⟩ = some (.int .u64 x) ∧ W.cell? ⟨h + 2, 0, none⟩ = some (.int .i64 y) ∧ W.cell? ⟨h + 3, 0, none⟩ = some (.int .i64 z)
def Froz (h : Nat) (W : World) : Prop := W.frozen? ⟨h + 1, 0, none⟩ = false ∧ W.frozen? ⟨h + 2, 0, none⟩ = false ∧ W.frozen? ⟨h + 3, 0, none⟩ = false ∧ W.frozen? ⟨h + 4, 0, none⟩ = false
theorem cell_far {W : World} {p q : Nat} {v : Value} (h : p ≠ q) : (W.setCell ⟨p, 0, none⟩ v).cell? ⟨q, 0, none⟩ = W.cell? ⟨q, 0, none⟩ := World.cell?_setCell_other _ _ _ _ (fun e => h (by injection e))
theorem cell_past {W : World} {o : Obj} {q : Nat} {x : Option Value} (h : q < W.heap.size) (hx : W.cell? ⟨q, 0, none⟩ = x) : (W.alloc o).cell? ⟨q, 0, none⟩ = x := (World.cell?_alloc_past _ _ _ h).trans hx
theorem froz_past {W : World} {o : Obj} {q : Nat} {x : Bool} (h : q < W.heap.size) (hx : W.frozen? ⟨q, 0, none⟩ = x) : (W.alloc o).frozen? ⟨q, 0, none⟩ = x := (World.frozen?_alloc_past _ _ _ h).trans hx
theorem cell_at {W : World} {v : Value} {t : TypeId} {q : Nat} (h : q = W.heap.size) : (W.alloc (.cells #[v] t)).cell? ⟨q, 0, none⟩ = some v := (World.cell?_alloc_at _ _ _ _ h).trans rfl
theorem froz_at {W : World} {v : Value} {t : TypeId} {q : Nat} (h : q = W.heap.size) : (W.alloc (.cells #[v] t)).frozen? ⟨q, 0, none⟩ = false := World.frozen?_alloc_at _ _ _ _ h
/-- Six fresh blocks. -/
theorem six (w : World) (v0 v1 v2 v3 v4 v5 : Value) (t0 t1 t2 t3 t4 t5 : TypeId) (W : World) (hW : W = (((((w.alloc (.cells #[v0] t0)).alloc (.cells #[v1] t1)).alloc (.cells #[v2] t2)).alloc (.cells #[v3] t3)).alloc (.cells #[v4] t4)).alloc (.cells #[v5] t5)) :
    W.heap.size = w.heap.size + 6 ∧ Below w.heap.size w W ∧ W.cell? ⟨w.heap.size, 0, none⟩ = some v0 ∧ W.cell? ⟨w.heap.size + 1, 0, none⟩ = some v1 ∧ W.cell? ⟨w.heap.size + 2, 0, none⟩ = some v2 ∧ W.cell? ⟨w.heap.size + 3, 0, none⟩ = some v3 ∧ W.cell? ⟨w.heap.size + 4, 0, none⟩ = some v4 ∧ W.cell? ⟨w.heap.size + 5, 0, none⟩ = some v5 ∧ Froz w.heap.size W := by
  subst hW
  have s1 := World.size_alloc w (.cells #[v0] t0)
  have b1 : Below w.heap.size w (w.alloc (.cells #[v0] t0)) := (Below.refl _ w).alloc (Nat.le_refl _) _
  have c0 : (w.alloc (.cells #[v0] t0)).cell? ⟨w.heap.size, 0, none⟩ = some v0 := cell_at rfl
  generalize w.alloc (.cells #[v0] t0) = W1 at *
  have s2 := World.size_alloc W1 (.cells #[v1] t1)
  have b2 := b1.alloc (B := w.heap.size) (by omega) (.cells #[v1] t1)
  replace c0 := cell_past (o := .cells #[v1] t1) (by omega) c0
  have c1 : (W1.alloc (.cells #[v1] t1)).cell? ⟨w.heap.size + 1, 0, none⟩ = some v1 := cell_at (by omega)
  have f1 : (W1.alloc (.cells #[v1] t1)).frozen? ⟨w.heap.size + 1, 0, none⟩ = false := froz_at (by omega)
  generalize W1.alloc (.cells #[v1] t1) = W2 at *
  have s3 := World.size_alloc W2 (.cells #[v2] t2)
  have b3 := b2.alloc (B := w.heap.size) (by omega) (.cells #[v2] t2)
  replace c0 := cell_past (o := .cells #[v2] t2) (by omega) c0
  replace c1 := cell_past (o := .cells #[v2] t2) (by omega) c1
  replace f1 := froz_past (o := .cells #[v2] t2) (by omega) f1
  have c2 : (W2.alloc (.cells #[v2] t2)).cell? ⟨w.heap.size + 2, 0, none⟩ = some v2 := cell_at (by omega)
  have f2 : (W2.alloc (.cells #[v2] t2)).frozen? ⟨w.heap.size + 2, 0, none⟩ = false := froz_at (by omega)
  generalize W2.alloc (.cells #[v2] t2) = W3 at *
  have s4 := World.size_alloc W3 (.cells #[v3] t3)
  have b4 := b3.alloc (B := w.heap.size) (by omega) (.cells #[v3] t3)
  replace c0 := cell_past (o := .cells #[v3] t3) (by omega) c0
  replace c1 := cell_past (o := .cells #[v3] t3) (by omega) c1
  replace c2 := cell_past (o := .cells #[v3] t3) (by omega) c2
  replace f1 := froz_past (o := .cells #[v3] t3) (by omega) f1
  replace f2 := froz_past (o := .cells #[v3] t3) (by omega) f2
  have c3 : (W3.alloc (.cells #[v3] t3)).cell? ⟨w.heap.size + 3, 0, none⟩ = some v3 := cell_at (by omega)
  have f3 : (W3.alloc (.cells #[v3] t3)).frozen? ⟨w.heap.size + 3, 0, none⟩ = false := froz_at (by omega)
  generalize W3.alloc (.cells #[v3] t3) = W4 at *
  have s5 := World.size_alloc W4 (.cells #[v4] t4)
  have b5 := b4.alloc (B := w.heap.size) (by omega) (.cells #[v4] t4)
  have c4 : (W4.alloc (.cells #[v4] t4)).cell? ⟨w.heap.size + 4, 0, none⟩ = some v4 := cell_at (by omega)
  have f4 : (W4.alloc (.cells #[v4] t4)).frozen? ⟨w.heap.size + 4, 0, none⟩ = false := froz_at (by omega)
  have s6 := World.size_alloc (W4.alloc (.cells #[v4] t4)) (.cells #[v5] t5)
  exact ⟨by omega, b5.alloc (by omega) _, cell_past (by omega) (cell_past (by omega) c0), cell_past (by omega) (cell_past (by omega) c1), cell_past (by omega) (cell_past (by omega) c2), cell_past (by omega) (cell_past (by omega) c3), cell_past (by omega) c4, cell_at (by omega),
    froz_past (by omega) (froz_past (by omega) f1), froz_past (by omega) (froz_past (by omega) f2), froz_past (by omega) (froz_past (by omega) f3), froz_past (by omega) f4⟩
theorem wrap_i64 (x : Int) (h : -9223372036854775808 ≤ x ∧ x ≤ 9223372036854775807) : IntKind.i64.wrap x = x := by
  simp only [IntKind.wrap, IntKind.bits, IntKind.signed]
  simp
  omega
theorem keeps3 (W : World) (p q r : Addr) (a b c : Value) : KeepsOthers W (((W.setCell p a).setCell q b).setCell r c) := ((KeepsOthers.setCell _ _ _).trans (KeepsOthers.setCell _ _ _)).trans (KeepsOthers.setCell _ _ _)
theorem below3 {h : Nat} {w W : World} (hB : Below h w W) (p q r : Addr) (a b c : Value) (h1 : h ≤ p.block) (h2 : h ≤ q.block) (h3 : h ≤ r.block) : Below h w (((W.setCell p a).setCell q b).setCell r c) := ((hB.setCell h1 _).setCell h2 _).setCell h3 _
theorem res3_set {h : Nat} {W : World} {x y z x' y' z' : Int} (hr : Res h W x y z) : Res h (((W.setCell ⟨h + 1, 0, none⟩ (.int .u64 x')).setCell ⟨h + 2, 0, none⟩ (.int .i64 y')).setCell ⟨h + 3, 0, none⟩ (.int .i64 z')) x' y' z' := by
  obtain ⟨h1, h2, h3⟩ := hr
  have e1 : (W.setCell ⟨h + 1, 0, none⟩ (.int .u64 x')).cell? ⟨h + 2, 0, none⟩ = some (.int .i64 y) := (cell_far (by omega)).trans h2
  have e2 : ((W.setCell ⟨h + 1, 0, none⟩ (.int .u64 x')).setCell ⟨h + 2, 0, none⟩ (.int .i64 y')).cell? ⟨h + 3, 0, none⟩ = some (.int .i64 z) := (cell_far (by omega)).trans ((cell_far (by omega)).trans h3)
  exact ⟨(cell_far (by omega)).trans ((cell_far (by omega)).trans (World.cell?_setCell_same _ _ _ (h1))), (cell_far (by omega)).trans (World.cell?_setCell_same _ _ _ (e1)), World.cell?_setCell_same _ _ _ (e2)⟩
theorem res_n {h : Nat} {W : World} {x y z : Int} {v : Value} (hr : Res h W x y z) : Res h (W.setCell ⟨h + 4, 0, none⟩ v).drew x y z := by
  obtain ⟨h1, h2, h3⟩ := hr
  exact ⟨(cell_far (by omega)).trans h1, (cell_far (by omega)).trans h2, (cell_far (by omega)).trans h3⟩
theorem froz_n {h : Nat} {W : World} {v : Value} (hr : Froz h W) : Froz h (W.setCell ⟨h + 4, 0, none⟩ v).drew := by
  obtain ⟨h1, h2, h3, h4⟩ := hr
  exact ⟨(World.frozen?_setCell _ _ _ _).trans h1, (World.frozen?_setCell _ _ _ _).trans h2, (World.frozen?_setCell _ _ _ _).trans h3, (World.frozen?_setCell _ _ _ _).trans h4⟩
theorem res_drew {h : Nat} {W : World} {x y z : Int} (hr : Res h W x y z) : Res h W.drew x y z := hr
set_option maxHeartbeats 8000000 in
set_option maxRecDepth 20000 in
theorem get_in1 (F : Fence) (n : Nat) (hF1 : F.fn 30) (hF2 : F.fn 41) (hF3 : F.fn 43) (hro : F.round = none) (hn : 3 ≤ n) (w : World) (B b o cap : Nat) (l : List UInt8) (a : Nat) (hR : Rd w B (some ⟨b, o, none⟩) (bv l)) (hB : B ≤ w.heap.size) (hl : l.length ≤ 281474976706560) (hlc : l.length ≤ cap) (hlt : a < l.length) :
    CallsIn F n Try.prog 30 #[.slice (some ⟨b, o, none⟩) l.length cap, .int .i64 ((a : Int) : Int)] w fun e w' => e = .returned (res3 (getR l (a : Int)).1 (getR l (a : Int)).2.1 (getR l (a : Int)).2.2) ∧ Below w.heap.size w w' := by
  have h1 : 1 ≤ n := by omega
  have hd1 : ¬ l.length < a := by omega
  have hd2 : ¬ ((a : Nat) : Int) < 0 := by omega
  have hca : ¬ (cap = a) := by omega
  obtain ⟨bs, hbs⟩ : ∃ bs, l.drop a = bs := ⟨_, rfl⟩
  have hbl : bs.length = l.length - a := by rw [← hbs, List.length_drop]
  have hbR : Rd w w.heap.size (some ⟨b, o + a, none⟩) (bv bs) := by
    intro j u hu
    have hu' : (bv l)[a + j]? = some u := by
      rw [← hbs] at hu
      simpa [bv, List.getElem?_drop] using hu
    obtain ⟨b', o', e, hb', hc⟩ := hR _ _ hu'
    cases e
    exact ⟨b, o + a, rfl, by omega, by rw [Nat.add_assoc]; exact hc⟩
  refine callsIn_of_wp_marks Try.func30 rfl hF1 ?_ hro
  simp only [Try.ntmps30, List.size_toArray, List.length_cons, List.length_nil, Nat.reduceAdd, Nat.reduceSub, Array.replicate_succ, Array.replicate_zero, List.push_toArray, List.append_toArray, List.nil_append, List.cons_append]
  gi_wp2_with (gi_at_call 41; refine (groups_in F (n - 1) hF2 hro _ _ _ _).mono ?_; rintro e w' ⟨rfl, rfl⟩)
  obtain ⟨Ws, hWs⟩ : ∃ Ws, Ws = ((((((w.alloc (.cells #[.int .i64 ((a : Int) : Int)] 3)).alloc (.cells #[.int .u64 0] 35)).alloc (.cells #[.int .i64 0] 3)).alloc (.cells #[.int .i64 0] 39)).alloc (.cells #[.int .u64 0] 35)).alloc (.cells #[.slice (some ⟨b, o + a, none⟩) (l.length - a) (cap - a)] 23)) := ⟨_, rfl⟩
  rw [← hWs]
  obtain ⟨hsz, hB0, hc0, hcr1, hcr2, hcr3, hcn, hcs, hfr⟩ := six _ _ _ _ _ _ _ _ _ _ _ _ _ _ hWs
  have hcr : Res w.heap.size Ws 0 0 0 := ⟨hcr1, hcr2, hcr3⟩
  clear hcr1 hcr2 hcr3
  clear hWs
  refine wpIn_rangeFunc_ownG hro h1 (gf := 43) (lb := #[.pointer (some ⟨w.heap.size + 5, 0, none⟩)]) rfl hF3 (enters_of Try.func43 (by kernel_rfl) rfl)
    (groups_stops (fun p : Ent => #[.int .i64 (p.k : Int), .int .u8 (p.c.toNat : Int)]) (ent bs) F (n - 1) hF3 hro (by omega) (w.heap.size + 5) w.heap.size _ _ bs (by omega) Ws (by omega) (by omega) (fun j hj => by simp [ent]; omega) (by rw [hbl]; exact hcs) (hbR.below hB0 (Nat.le_refl _))) belowK_t (belowK_b (by omega)) (Below.refl _ _) (fun _ => rfl)
    (fun pre W => ((∀ p ∈ pre, p.goes) ∧ W.cell? ⟨w.heap.size, 0, none⟩ = some (.int .i64 ((a : Int) : Int)) ∧ Res w.heap.size W 0 0 0 ∧ Froz w.heap.size W ∧ W.cell? ⟨w.heap.size + 4, 0, none⟩ = some (.int .u64 (accG pre))) ∧ Below w.heap.size w W)
    (fun c pre W => (c = .ret ∧ ∃ ini last, pre = ini ++ [last] ∧ (∀ p ∈ ini, p.goes) ∧ ∃ x y z, Ends a (accG ini) last x y z ∧ Res w.heap.size W x y z) ∧ Below w.heap.size w W)
    ?hI ?hIx ⟨⟨by simp, hc0, hcr, hfr, hcn⟩, hB0⟩ (fun x => { tmps := #[.slice (some ⟨b, o, none⟩) l.length cap, .int .i64 ((a : Int) : Int), undef, .pointer (some ⟨w.heap.size, 0, none⟩), .pointer (some ⟨w.heap.size + 1, 0, none⟩), .pointer (some ⟨w.heap.size + 1 + 1, 0, none⟩), .pointer (some ⟨w.heap.size + 1 + 1 + 1, 0, none⟩), .pointer (some ⟨w.heap.size + 1 + 1 + 1 + 1, 0, none⟩), .int .i64 (x.k : Int), .int .u8 (x.c.toNat : Int), .int .i64 ((a : Int) : Int), .bool false, .bool false, .int .i64 ((a : Int) : Int), .slice (some ⟨b, o, none⟩) l.length cap, .int .i64 (l.length : Int), .bool false, .bool false, .slice (some ⟨b, o, none⟩) l.length cap, .int .i64 ((a : Int) : Int), .slice (some ⟨b, o + a, none⟩) (l.length - a) (cap - a), .func (.func 43) #[] #[.pointer (some ⟨w.heap.size + 1 + 1 + 1 + 1 + 1, 0, none⟩)], .int .i64 (x.k : Int), .int .u8 (x.c.toNat : Int), undef, undef, undef, undef, undef, undef, undef, undef, undef, undef, undef, undef, undef, undef, undef, undef, undef, undef, undef, undef, undef, undef, undef, undef, undef, undef, undef, undef, undef], defers := [] }) ?assign ?body ?done ?stop
  case hI =>
    refine OwnFrom.and (Own.from (fun s A B row hs hg hr => ?_) _) (ownFrom_below (Nat.le_refl _) (by omega))
    obtain ⟨h1, h2, ⟨h3, h4, h5⟩, ⟨h6, h7, h8, h9⟩, h10⟩ := hs
    exact ⟨h1, cell_kept h2 hg hr, ⟨cell_kept h3 hg hr, cell_kept h4 hg hr, cell_kept h5 hg hr⟩, ⟨(frozen_kept h3 hg hr).trans h6, (frozen_kept h4 hg hr).trans h7, (frozen_kept h5 hg hr).trans h8, (frozen_kept h10 hg hr).trans h9⟩, cell_kept h10 hg hr⟩
  case hIx =>
    intro c
    refine OwnFrom.and (Own.from (fun s A B row hs hg hr => ?_) _) (ownFrom_below (Nat.le_refl _) (by omega))
    obtain ⟨hc, ini, last, e1, e2, x, y, z, he, h3, h4, h5⟩ := hs
    exact ⟨hc, ini, last, e1, e2, x, y, z, he, cell_kept h3 hg hr, cell_kept h4 hg hr, cell_kept h5 hg hr⟩
  case assign =>
    intro l x W K hK
    gi_wp2
    exact hK
  case body =>
    rintro l0 pre x W ⟨⟨hp, hca, hcr, hfr, hcn⟩, hB⟩ _
    have hrr := hcr
    obtain ⟨hcr1, hcr2, hcr3⟩ := hcr
    have hff := hfr
    obtain ⟨hfr1, hfr2, hfr3, hfr4⟩ := hfr
    have hmx : Try.prog.follows .mixedOrders = true := by kernel_rfl
    have hd : 1 ≤ n - 1 - 1 := by omega
    have f7 : bits .and .u8 0 127 = 0 := by decide
    have f8 : IntKind.u64.wrap 0 = 0 := by decide
    have hw63 : IntKind.i64.wrap 63 = 63 := by decide
    obtain ⟨m, hm⟩ : ∃ m, m = x.c.toNat % 128 := ⟨_, rfl⟩
    obtain ⟨xk, xc, xh⟩ := x
    dsimp only at hm ⊢
    have f1 := and127 xc
    have f2 := u64_m xc.toNat
    have f3 := shl_shv xk xc.toNat
    have f6 : IntKind.u64.wrap (((xc.toNat % 128 : Nat) : Int) * 9223372036854775808) = shv 9 xc.toNat := shl_shv 9 xc.toNat
    rw [← hm] at f1 f2 f3 f6
    have f4 : IntKind.i64.wrap (7 * (xk : Int)) = 7 * (xk : Int) := wrap_i64 _ (by omega)
    have f5 : (0 : Int) ≤ 7 * (xk : Int) := by omega
    have Hm := Lib.hid hm
    clear hm
    gi_wp2
    · exact ⟨(keeps3 _ _ _ _ _ _ _).from _, ⟨rfl, pre, ⟨xk, xc, xh⟩, rfl, hp, 0, 0, 6, .inl ⟨⟨(show xk = 9 by omega), (show 1 < xc.toNat by omega)⟩, rfl, rfl, rfl⟩, res3_set hrr⟩, below3 hB _ _ _ _ _ _ (by simp <;> omega) (by simp <;> omega) (by simp <;> omega)⟩
    · exact ⟨(keeps3 _ _ _ _ _ _ _).from _, ⟨rfl, pre, ⟨xk, xc, xh⟩, rfl, hp, 0, 0, 5, .inr (.inl ⟨fun e => (by have h1 := e.1; have h2 := e.2; dsimp only at h1 h2; omega), ⟨(show xc.toNat = 0 by omega), (show 0 < xk by omega)⟩, rfl, rfl, rfl⟩), res3_set hrr⟩, below3 hB _ _ _ _ _ _ (by simp <;> omega) (by simp <;> omega) (by simp <;> omega)⟩
    · refine in_still_tail 8 hmx (by kernel_rfl) (by kernel_rfl) ?_
      simp only [List.take_succ_cons, List.take_zero, List.drop_succ_cons, List.drop_zero]
      repeat still_step
      refine wpStill_nil ?_
      go_wp2
      refine ⟨rfl, ?_⟩
      gi_wp2
      have q1 := res_n (v := .int .u64 (bits .or .u64 (accG pre) (shv 9 xc.toNat))) hrr
      have q2 := froz_n (v := .int .u64 (bits .or .u64 (accG pre) (shv 9 xc.toNat))) hff
      refine get_reg13 (W := (W.setCell ⟨w.heap.size + 4, 0, none⟩ (.int .u64 (bits .or .u64 (accG pre) (shv 9 xc.toNat)))).drew) (h := w.heap.size) (k := 9) (a := (a : Int)) (v := bits .or .u64 (accG pre) (shv 9 xc.toNat)) (by kernel_rfl) ((cell_far (show w.heap.size + 4 ≠ w.heap.size by omega)).trans hca) (World.cell?_setCell_same _ _ _ (hcn)) q1.1 q1.2.1 q1.2.2 q2.1 q2.2.1 q2.2.2.1 (wrap_i64 _ (by omega)) (wrap_i64 _ (by omega)) (fun a' => ?_)
      gi_wp2
      exact ⟨((((KeepsOthers.setCell _ _ _).trans (KeepsOthers.drew _)).trans (KeepsOthers.drew _)).trans (keeps3 _ _ _ _ _ _ _)).from _, ⟨rfl, pre, ⟨xk, xc, xh⟩, rfl, hp, _, _, _, .inr (.inr ⟨fun e => (by have h1 := e.1; have h2 := e.2; dsimp only at h1 h2; omega), fun e => (by have h1 := e.1; have h2 := e.2; dsimp only at h1 h2; omega), (show xc.toNat < 128 by omega), (by have e9 : xk = 9 := (by omega); subst e9; rfl), (by have e8 : (xk : Int) = 9 := (by omega); rw [e8]), rfl⟩), res3_set (res_drew q1)⟩, below3 (((hB.setCell (p := ⟨w.heap.size + 4, 0, none⟩) (by simp) _).drew).drew) _ _ _ _ _ _ (by simp <;> omega) (by simp <;> omega) (by simp <;> omega)⟩
    · exact ⟨(keeps3 _ _ _ _ _ _ _).from _, ⟨rfl, pre, ⟨xk, xc, xh⟩, rfl, hp, 0, 0, 5, .inr (.inl ⟨fun e => (by have h1 := e.1; have h2 := e.2; dsimp only at h1 h2; omega), ⟨(show xc.toNat = 0 by omega), (show 0 < xk by omega)⟩, rfl, rfl, rfl⟩), res3_set hrr⟩, below3 hB _ _ _ _ _ _ (by simp <;> omega) (by simp <;> omega) (by simp <;> omega)⟩
    · refine in_still_tail 8 hmx (by kernel_rfl) (by kernel_rfl) ?_
      simp only [List.take_succ_cons, List.take_zero, List.drop_succ_cons, List.drop_zero]
      repeat still_step
      refine wpStill_nil ?_
      go_wp2
      refine ⟨rfl, ?_⟩
      gi_wp2
      have q1 := res_n (v := .int .u64 (bits .or .u64 (accG pre) 0)) hrr
      have q2 := froz_n (v := .int .u64 (bits .or .u64 (accG pre) 0)) hff
      refine get_reg13 (W := (W.setCell ⟨w.heap.size + 4, 0, none⟩ (.int .u64 (bits .or .u64 (accG pre) 0))).drew) (h := w.heap.size) (k := (xk : Int)) (a := (a : Int)) (v := bits .or .u64 (accG pre) 0) (by kernel_rfl) ((cell_far (show w.heap.size + 4 ≠ w.heap.size by omega)).trans hca) (World.cell?_setCell_same _ _ _ (hcn)) q1.1 q1.2.1 q1.2.2 q2.1 q2.2.1 q2.2.2.1 (wrap_i64 _ (by omega)) (wrap_i64 _ (by omega)) (fun a' => ?_)
      gi_wp2
      exact ⟨((((KeepsOthers.setCell _ _ _).trans (KeepsOthers.drew _)).trans (KeepsOthers.drew _)).trans (keeps3 _ _ _ _ _ _ _)).from _, ⟨rfl, pre, ⟨xk, xc, xh⟩, rfl, hp, _, _, _, .inr (.inr ⟨fun e => (by have h1 := e.1; have h2 := e.2; dsimp only at h1 h2; omega), fun e => (by have h1 := e.1; have h2 := e.2; dsimp only at h1 h2; omega), (show xc.toNat < 128 by omega), (by have e9 : xc.toNat = 0 := (by assumption); unfold accS shv; dsimp only; rw [e9]; simp), (by have e8 : (xk : Int) = (xk : Int) := (by omega); rw [e8]), rfl⟩), res3_set (res_drew q1)⟩, below3 (((hB.setCell (p := ⟨w.heap.size + 4, 0, none⟩) (by simp) _).drew).drew) _ _ _ _ _ _ (by simp <;> omega) (by simp <;> omega) (by simp <;> omega)⟩
    · refine in_still_tail 8 hmx (by kernel_rfl) (by kernel_rfl) ?_
      simp only [List.take_succ_cons, List.take_zero, List.drop_succ_cons, List.drop_zero]
      repeat still_step
      refine wpStill_nil ?_
      go_wp2
      refine ⟨rfl, ?_⟩
      gi_wp2
      · have q1 := res_n (v := .int .u64 (bits .or .u64 (accG pre) (shv xk xc.toNat))) hrr
        have q2 := froz_n (v := .int .u64 (bits .or .u64 (accG pre) (shv xk xc.toNat))) hff
        refine get_reg13 (W := (W.setCell ⟨w.heap.size + 4, 0, none⟩ (.int .u64 (bits .or .u64 (accG pre) (shv xk xc.toNat)))).drew) (h := w.heap.size) (k := (xk : Int)) (a := (a : Int)) (v := bits .or .u64 (accG pre) (shv xk xc.toNat)) (by kernel_rfl) ((cell_far (show w.heap.size + 4 ≠ w.heap.size by omega)).trans hca) (World.cell?_setCell_same _ _ _ (hcn)) q1.1 q1.2.1 q1.2.2 q2.1 q2.2.1 q2.2.2.1 (wrap_i64 _ (by omega)) (wrap_i64 _ (by omega)) (fun a' => ?_)
        gi_wp2
        exact ⟨((((KeepsOthers.setCell _ _ _).trans (KeepsOthers.drew _)).trans (KeepsOthers.drew _)).trans (keeps3 _ _ _ _ _ _ _)).from _, ⟨rfl, pre, ⟨xk, xc, xh⟩, rfl, hp, _, _, _, .inr (.inr ⟨fun e => (by have h1 := e.1; have h2 := e.2; dsimp only at h1 h2; omega), fun e => (by have h1 := e.1; have h2 := e.2; dsimp only at h1 h2; omega), (show xc.toNat < 128 by omega), (rfl), (by have e8 : (xk : Int) = (xk : Int) := (by omega); rw [e8]), rfl⟩), res3_set (res_drew q1)⟩, below3 (((hB.setCell (p := ⟨w.heap.size + 4, 0, none⟩) (by simp) _).drew).drew) _ _ _ _ _ _ (by simp <;> omega) (by simp <;> omega) (by simp <;> omega)⟩
      · have q1 := res_n (v := .int .u64 (bits .or .u64 (accG pre) (shv xk xc.toNat))) hrr
        have q2 := froz_n (v := .int .u64 (bits .or .u64 (accG pre) (shv xk xc.toNat))) hff
        exact ⟨((KeepsOthers.setCell _ _ _).trans (KeepsOthers.drew _)).from _, ((Below.refl _ W).setCell (p := ⟨w.heap.size + 4, 0, none⟩) (by simp) _).drew, ⟨fun p hp' => (List.mem_append.1 hp').elim (hp p) (fun e => by
          simp at e; subst e
          exact ⟨fun e => (by have h1 := e.1; have h2 := e.2; dsimp only at h1 h2; omega), fun e => (by have h1 := e.1; have h2 := e.2; dsimp only at h1 h2; omega), (show 128 ≤ xc.toNat by omega)⟩), (cell_far (show w.heap.size + 4 ≠ w.heap.size by omega)).trans hca, q1, q2, (by rw [accG_snoc]; exact World.cell?_setCell_same _ _ _ (hcn))⟩, (hB.setCell (p := ⟨w.heap.size + 4, 0, none⟩) (by simp) _).drew⟩
    all_goals go_goals
  case done =>
    rintro D ys W hD hS ⟨⟨hp, hca, hcr, hfr, hcn⟩, hB⟩ hK
    have hg := get_done l a bs hbs (by omega) ys hS hp
    have hr3 := hcr
    obtain ⟨hcr1, hcr2, hcr3⟩ := hcr
    obtain ⟨hfr1, hfr2, hfr3, hfr4⟩ := hfr
    gi_wp2
    have hK' := (keeps3 W ⟨w.heap.size + 1, 0, none⟩ ⟨w.heap.size + 2, 0, none⟩ ⟨w.heap.size + 3, 0, none⟩ (.int .u64 0) (.int .i64 0) (.int .i64 4)).same D _ hK rfl
    have hr4 := res3_set (x' := 0) (y' := 0) (z' := 4) hr3
    have hB4 := below3 hB ⟨w.heap.size + 1, 0, none⟩ ⟨w.heap.size + 2, 0, none⟩ ⟨w.heap.size + 3, 0, none⟩ (.int .u64 0) (.int .i64 0) (.int .i64 4) (by simp <;> omega) (by simp <;> omega) (by simp <;> omega)
    refine ⟨by simp, .inl ⟨_, _, rfl, run_takeDeferred hK', ?_⟩⟩
    obtain ⟨c1, c2, c3⟩ := hr4
    have d1 := cell_kept c1 (grownBy_putObj' _ D (.deferred none)) (fun r e => by cases e; exact ⟨_, hK', rfl⟩)
    have d2 := cell_kept c2 (grownBy_putObj' _ D (.deferred none)) (fun r e => by cases e; exact ⟨_, hK', rfl⟩)
    have d3 := cell_kept c3 (grownBy_putObj' _ D (.deferred none)) (fun r e => by cases e; exact ⟨_, hK', rfl⟩)
    refine ⟨res3 0 0 4, ?_, (by rw [hg]), hB4.trans (belowK_b (w := w) (Nat.le_refl _) _ D _ _ (by omega) hK' rfl rfl)⟩
    simp [results, Try.f30, go_sem, d1, d2, d3, res3]
  case stop =>
    rintro D c pre W hD hS ⟨⟨rfl, ini, last, e1, e2, x, y, z, he, hcr⟩, hB⟩ hK
    have hg := get_stop l a bs hbs (by omega) pre hS ini last e1 e2 x y z he
    gi_wp2
    obtain ⟨c1, c2, c3⟩ := hcr
    refine ⟨by simp, .inl ⟨_, _, rfl, run_takeDeferred hK, ?_⟩⟩
    have d1 := cell_kept c1 (grownBy_putObj' _ D (.deferred none)) (fun r e => by cases e; exact ⟨_, hK, rfl⟩)
    have d2 := cell_kept c2 (grownBy_putObj' _ D (.deferred none)) (fun r e => by cases e; exact ⟨_, hK, rfl⟩)
    have d3 := cell_kept c3 (grownBy_putObj' _ D (.deferred none)) (fun r e => by cases e; exact ⟨_, hK, rfl⟩)
    refine ⟨.tuple #[.int .u64 x, .int .i64 y, .int .i64 z], ?_, ?_, hB.trans (belowK_b (w := w) (Nat.le_refl _) W D _ _ (by omega) hK rfl rfl)⟩
    · simp [results, Try.f30, go_sem, d1, d2, d3]
    · rw [← hg.1, ← hg.2.1, ← hg.2.2]; rfl
set_option maxHeartbeats 8000000 in
set_option maxRecDepth 20000 in
theorem get_in2 (F : Fence) (n : Nat) (hF1 : F.fn 30) (hF2 : F.fn 41) (hF3 : F.fn 43) (hro : F.round = none) (hn : 3 ≤ n) (w : World) (A : Option Addr) (l : List UInt8) (hl : l.length ≤ 281474976706560) :
    CallsIn F n Try.prog 30 #[.slice A l.length l.length, .int .i64 ((l.length : Int) : Int)] w fun e w' => e = .returned (res3 (getR l (l.length : Int)).1 (getR l (l.length : Int)).2.1 (getR l (l.length : Int)).2.2) ∧ Below w.heap.size w w' := by
  have h1 : 1 ≤ n := by omega
  have hd1 : ¬ l.length < l.length := by omega
  have hd2 : ¬ ((l.length : Nat) : Int) < 0 := by omega
  obtain ⟨bs, hbs⟩ : ∃ bs, l.drop l.length = bs := ⟨_, rfl⟩
  have hb0 : bs = [] := by rw [← hbs, List.drop_length]
  have hbl : bs.length = 0 := by rw [hb0]; rfl
  have hbR : ∀ A', Rd w w.heap.size A' (bv bs) := by
    intro A' j u hu
    rw [hb0] at hu
    cases hu
  refine callsIn_of_wp_marks Try.func30 rfl hF1 ?_ hro
  simp only [Try.ntmps30, List.size_toArray, List.length_cons, List.length_nil, Nat.reduceAdd, Nat.reduceSub, Array.replicate_succ, Array.replicate_zero, List.push_toArray, List.append_toArray, List.nil_append, List.cons_append]
  gi_wp2_with (gi_at_call 41; refine (groups_in F (n - 1) hF2 hro _ _ _ _).mono ?_; rintro e w' ⟨rfl, rfl⟩)
  obtain ⟨Ws, hWs⟩ : ∃ Ws, Ws = ((((((w.alloc (.cells #[.int .i64 ((l.length : Int) : Int)] 3)).alloc (.cells #[.int .u64 0] 35)).alloc (.cells #[.int .i64 0] 3)).alloc (.cells #[.int .i64 0] 39)).alloc (.cells #[.int .u64 0] 35)).alloc (.cells #[.slice A 0 0] 23)) := ⟨_, rfl⟩
  rw [← hWs]
  obtain ⟨hsz, hB0, hc0, hcr1, hcr2, hcr3, hcn, hcs, hfr⟩ := six _ _ _ _ _ _ _ _ _ _ _ _ _ _ hWs
  have hcr : Res w.heap.size Ws 0 0 0 := ⟨hcr1, hcr2, hcr3⟩
  clear hcr1 hcr2 hcr3
  clear hWs
  refine wpIn_rangeFunc_ownG hro h1 (gf := 43) (lb := #[.pointer (some ⟨w.heap.size + 5, 0, none⟩)]) rfl hF3 (enters_of Try.func43 (by kernel_rfl) rfl)
    (groups_stops (fun p : Ent => #[.int .i64 (p.k : Int), .int .u8 (p.c.toNat : Int)]) (ent bs) F (n - 1) hF3 hro (by omega) (w.heap.size + 5) w.heap.size _ _ bs (by omega) Ws (by omega) (by omega) (fun j hj => by simp [ent]; omega) (by rw [hbl]; exact hcs) ((hbR _).below hB0 (Nat.le_refl _))) belowK_t (belowK_b (by omega)) (Below.refl _ _) (fun _ => rfl)
    (fun pre W => ((∀ p ∈ pre, p.goes) ∧ W.cell? ⟨w.heap.size, 0, none⟩ = some (.int .i64 ((l.length : Int) : Int)) ∧ Res w.heap.size W 0 0 0 ∧ Froz w.heap.size W ∧ W.cell? ⟨w.heap.size + 4, 0, none⟩ = some (.int .u64 (accG pre))) ∧ Below w.heap.size w W)
    (fun c pre W => (c = .ret ∧ ∃ ini last, pre = ini ++ [last] ∧ (∀ p ∈ ini, p.goes) ∧ ∃ x y z, Ends l.length (accG ini) last x y z ∧ Res w.heap.size W x y z) ∧ Below w.heap.size w W)
    ?hI ?hIx ⟨⟨by simp, hc0, hcr, hfr, hcn⟩, hB0⟩ (fun x => { tmps := #[.slice A l.length l.length, .int .i64 ((l.length : Int) : Int), undef, .pointer (some ⟨w.heap.size, 0, none⟩), .pointer (some ⟨w.heap.size + 1, 0, none⟩), .pointer (some ⟨w.heap.size + 1 + 1, 0, none⟩), .pointer (some ⟨w.heap.size + 1 + 1 + 1, 0, none⟩), .pointer (some ⟨w.heap.size + 1 + 1 + 1 + 1, 0, none⟩), .int .i64 (x.k : Int), .int .u8 (x.c.toNat : Int), .int .i64 ((l.length : Int) : Int), .bool false, .bool false, .int .i64 ((l.length : Int) : Int), .slice A l.length l.length, .int .i64 (l.length : Int), .bool false, .bool false, .slice A l.length l.length, .int .i64 ((l.length : Int) : Int), .slice A 0 0, .func (.func 43) #[] #[.pointer (some ⟨w.heap.size + 1 + 1 + 1 + 1 + 1, 0, none⟩)], .int .i64 (x.k : Int), .int .u8 (x.c.toNat : Int), undef, undef, undef, undef, undef, undef, undef, undef, undef, undef, undef, undef, undef, undef, undef, undef, undef, undef, undef, undef, undef, undef, undef, undef, undef, undef, undef, undef, undef], defers := [] }) ?assign ?body ?done ?stop
  case hI =>
    refine OwnFrom.and (Own.from (fun s A B row hs hg hr => ?_) _) (ownFrom_below (Nat.le_refl _) (by omega))
    obtain ⟨h1, h2, ⟨h3, h4, h5⟩, ⟨h6, h7, h8, h9⟩, h10⟩ := hs
    exact ⟨h1, cell_kept h2 hg hr, ⟨cell_kept h3 hg hr, cell_kept h4 hg hr, cell_kept h5 hg hr⟩, ⟨(frozen_kept h3 hg hr).trans h6, (frozen_kept h4 hg hr).trans h7, (frozen_kept h5 hg hr).trans h8, (frozen_kept h10 hg hr).trans h9⟩, cell_kept h10 hg hr⟩
  case hIx =>
    intro c
    refine OwnFrom.and (Own.from (fun s A B row hs hg hr => ?_) _) (ownFrom_below (Nat.le_refl _) (by omega))
    obtain ⟨hc, ini, last, e1, e2, x, y, z, he, h3, h4, h5⟩ := hs
    exact ⟨hc, ini, last, e1, e2, x, y, z, he, cell_kept h3 hg hr, cell_kept h4 hg hr, cell_kept h5 hg hr⟩
  case assign =>
    intro l x W K hK
    gi_wp2
    exact hK
  case body =>
    intro l0 pre x W _ hN
    rw [hbl] at hN
    exact absurd hN (by omega)
  case done =>
    rintro D ys W hD hS ⟨⟨hp, hca, hcr, hfr, hcn⟩, hB⟩ hK
    have hg := get_done l l.length bs hbs (by omega) ys hS hp
    have hr3 := hcr
    obtain ⟨hcr1, hcr2, hcr3⟩ := hcr
    obtain ⟨hfr1, hfr2, hfr3, hfr4⟩ := hfr
    gi_wp2
    have hK' := (keeps3 W ⟨w.heap.size + 1, 0, none⟩ ⟨w.heap.size + 2, 0, none⟩ ⟨w.heap.size + 3, 0, none⟩ (.int .u64 0) (.int .i64 0) (.int .i64 4)).same D _ hK rfl
    have hr4 := res3_set (x' := 0) (y' := 0) (z' := 4) hr3
    have hB4 := below3 hB ⟨w.heap.size + 1, 0, none⟩ ⟨w.heap.size + 2, 0, none⟩ ⟨w.heap.size + 3, 0, none⟩ (.int .u64 0) (.int .i64 0) (.int .i64 4) (by simp <;> omega) (by simp <;> omega) (by simp <;> omega)
    refine ⟨by simp, .inl ⟨_, _, rfl, run_takeDeferred hK', ?_⟩⟩
    obtain ⟨c1, c2, c3⟩ := hr4
    have d1 := cell_kept c1 (grownBy_putObj' _ D (.deferred none)) (fun r e => by cases e; exact ⟨_, hK', rfl⟩)
    have d2 := cell_kept c2 (grownBy_putObj' _ D (.deferred none)) (fun r e => by cases e; exact ⟨_, hK', rfl⟩)
    have d3 := cell_kept c3 (grownBy_putObj' _ D (.deferred none)) (fun r e => by cases e; exact ⟨_, hK', rfl⟩)
    refine ⟨res3 0 0 4, ?_, (by rw [hg]), hB4.trans (belowK_b (w := w) (Nat.le_refl _) _ D _ _ (by omega) hK' rfl rfl)⟩
    simp [results, Try.f30, go_sem, d1, d2, d3, res3]
  case stop =>
    rintro D c pre W hD hS ⟨⟨rfl, ini, last, e1, e2, x, y, z, he, hcr⟩, hB⟩ hK
    have hg := get_stop l l.length bs hbs (by omega) pre hS ini last e1 e2 x y z he
    gi_wp2
    obtain ⟨c1, c2, c3⟩ := hcr
    refine ⟨by simp, .inl ⟨_, _, rfl, run_takeDeferred hK, ?_⟩⟩
    have d1 := cell_kept c1 (grownBy_putObj' _ D (.deferred none)) (fun r e => by cases e; exact ⟨_, hK, rfl⟩)
    have d2 := cell_kept c2 (grownBy_putObj' _ D (.deferred none)) (fun r e => by cases e; exact ⟨_, hK, rfl⟩)
    have d3 := cell_kept c3 (grownBy_putObj' _ D (.deferred none)) (fun r e => by cases e; exact ⟨_, hK, rfl⟩)
    refine ⟨.tuple #[.int .u64 x, .int .i64 y, .int .i64 z], ?_, ?_, hB.trans (belowK_b (w := w) (Nat.le_refl _) W D _ _ (by omega) hK rfl rfl)⟩
    · simp [results, Try.f30, go_sem, d1, d2, d3]
    · rw [← hg.1, ← hg.2.1, ← hg.2.2]; rfl
set_option maxHeartbeats 8000000 in
set_option maxRecDepth 20000 in
theorem get_in3 (F : Fence) (n : Nat) (hF1 : F.fn 30) (hF2 : F.fn 41) (hF3 : F.fn 43) (hro : F.round = none) (hn : 3 ≤ n) (w : World) (A : Option Addr) (cap : Nat) (l : List UInt8) (hl : l.length ≤ 281474976706560) (hca : ¬ cap = l.length) :
    CallsIn F n Try.prog 30 #[.slice A l.length cap, .int .i64 ((l.length : Int) : Int)] w fun e w' => e = .returned (res3 (getR l (l.length : Int)).1 (getR l (l.length : Int)).2.1 (getR l (l.length : Int)).2.2) ∧ Below w.heap.size w w' := by
  have h1 : 1 ≤ n := by omega
  have hd1 : ¬ l.length < l.length := by omega
  have hd2 : ¬ ((l.length : Nat) : Int) < 0 := by omega
  obtain ⟨bs, hbs⟩ : ∃ bs, l.drop l.length = bs := ⟨_, rfl⟩
  have hb0 : bs = [] := by rw [← hbs, List.drop_length]
  have hbl : bs.length = 0 := by rw [hb0]; rfl
  have hbR : ∀ A', Rd w w.heap.size A' (bv bs) := by
    intro A' j u hu
    rw [hb0] at hu
    cases hu
  refine callsIn_of_wp_marks Try.func30 rfl hF1 ?_ hro
  simp only [Try.ntmps30, List.size_toArray, List.length_cons, List.length_nil, Nat.reduceAdd, Nat.reduceSub, Array.replicate_succ, Array.replicate_zero, List.push_toArray, List.append_toArray, List.nil_append, List.cons_append]
  gi_wp2_with (gi_at_call 41; refine (groups_in F (n - 1) hF2 hro _ _ _ _).mono ?_; rintro e w' ⟨rfl, rfl⟩)
  obtain ⟨Ws, hWs⟩ : ∃ Ws, Ws = ((((((w.alloc (.cells #[.int .i64 ((l.length : Int) : Int)] 3)).alloc (.cells #[.int .u64 0] 35)).alloc (.cells #[.int .i64 0] 3)).alloc (.cells #[.int .i64 0] 39)).alloc (.cells #[.int .u64 0] 35)).alloc (.cells #[.slice (Option.map (fun x => x.add l.length) A) 0 (cap - l.length)] 23)) := ⟨_, rfl⟩
  rw [← hWs]
  obtain ⟨hsz, hB0, hc0, hcr1, hcr2, hcr3, hcn, hcs, hfr⟩ := six _ _ _ _ _ _ _ _ _ _ _ _ _ _ hWs
  have hcr : Res w.heap.size Ws 0 0 0 := ⟨hcr1, hcr2, hcr3⟩
  clear hcr1 hcr2 hcr3
  clear hWs
  refine wpIn_rangeFunc_ownG hro h1 (gf := 43) (lb := #[.pointer (some ⟨w.heap.size + 5, 0, none⟩)]) rfl hF3 (enters_of Try.func43 (by kernel_rfl) rfl)
    (groups_stops (fun p : Ent => #[.int .i64 (p.k : Int), .int .u8 (p.c.toNat : Int)]) (ent bs) F (n - 1) hF3 hro (by omega) (w.heap.size + 5) w.heap.size _ _ bs (by omega) Ws (by omega) (by omega) (fun j hj => by simp [ent]; omega) (by rw [hbl]; exact hcs) ((hbR _).below hB0 (Nat.le_refl _))) belowK_t (belowK_b (by omega)) (Below.refl _ _) (fun _ => rfl)
    (fun pre W => ((∀ p ∈ pre, p.goes) ∧ W.cell? ⟨w.heap.size, 0, none⟩ = some (.int .i64 ((l.length : Int) : Int)) ∧ Res w.heap.size W 0 0 0 ∧ Froz w.heap.size W ∧ W.cell? ⟨w.heap.size + 4, 0, none⟩ = some (.int .u64 (accG pre))) ∧ Below w.heap.size w W)
    (fun c pre W => (c = .ret ∧ ∃ ini last, pre = ini ++ [last] ∧ (∀ p ∈ ini, p.goes) ∧ ∃ x y z, Ends l.length (accG ini) last x y z ∧ Res w.heap.size W x y z) ∧ Below w.heap.size w W)
    ?hI ?hIx ⟨⟨by simp, hc0, hcr, hfr, hcn⟩, hB0⟩ (fun x => { tmps := #[.slice A l.length cap, .int .i64 ((l.length : Int) : Int), undef, .pointer (some ⟨w.heap.size, 0, none⟩), .pointer (some ⟨w.heap.size + 1, 0, none⟩), .pointer (some ⟨w.heap.size + 1 + 1, 0, none⟩), .pointer (some ⟨w.heap.size + 1 + 1 + 1, 0, none⟩), .pointer (some ⟨w.heap.size + 1 + 1 + 1 + 1, 0, none⟩), .int .i64 (x.k : Int), .int .u8 (x.c.toNat : Int), .int .i64 ((l.length : Int) : Int), .bool false, .bool false, .int .i64 ((l.length : Int) : Int), .slice A l.length cap, .int .i64 (l.length : Int), .bool false, .bool false, .slice A l.length cap, .int .i64 ((l.length : Int) : Int), .slice (Option.map (fun x => x.add l.length) A) 0 (cap - l.length), .func (.func 43) #[] #[.pointer (some ⟨w.heap.size + 1 + 1 + 1 + 1 + 1, 0, none⟩)], .int .i64 (x.k : Int), .int .u8 (x.c.toNat : Int), undef, undef, undef, undef, undef, undef, undef, undef, undef, undef, undef, undef, undef, undef, undef, undef, undef, undef, undef, undef, undef, undef, undef, undef, undef, undef, undef, undef, undef], defers := [] }) ?assign ?body ?done ?stop
  case hI =>
    refine OwnFrom.and (Own.from (fun s A B row hs hg hr => ?_) _) (ownFrom_below (Nat.le_refl _) (by omega))
    obtain ⟨h1, h2, ⟨h3, h4, h5⟩, ⟨h6, h7, h8, h9⟩, h10⟩ := hs
    exact ⟨h1, cell_kept h2 hg hr, ⟨cell_kept h3 hg hr, cell_kept h4 hg hr, cell_kept h5 hg hr⟩, ⟨(frozen_kept h3 hg hr).trans h6, (frozen_kept h4 hg hr).trans h7, (frozen_kept h5 hg hr).trans h8, (frozen_kept h10 hg hr).trans h9⟩, cell_kept h10 hg hr⟩
  case hIx =>
    intro c
    refine OwnFrom.and (Own.from (fun s A B row hs hg hr => ?_) _) (ownFrom_below (Nat.le_refl _) (by omega))
    obtain ⟨hc, ini, last, e1, e2, x, y, z, he, h3, h4, h5⟩ := hs
    exact ⟨hc, ini, last, e1, e2, x, y, z, he, cell_kept h3 hg hr, cell_kept h4 hg hr, cell_kept h5 hg hr⟩
  case assign =>
    intro l x W K hK
    gi_wp2
    exact hK
  case body =>
    intro l0 pre x W _ hN
    rw [hbl] at hN
    exact absurd hN (by omega)
  case done =>
    rintro D ys W hD hS ⟨⟨hp, hca, hcr, hfr, hcn⟩, hB⟩ hK
    have hg := get_done l l.length bs hbs (by omega) ys hS hp
    have hr3 := hcr
    obtain ⟨hcr1, hcr2, hcr3⟩ := hcr
    obtain ⟨hfr1, hfr2, hfr3, hfr4⟩ := hfr
    gi_wp2
    have hK' := (keeps3 W ⟨w.heap.size + 1, 0, none⟩ ⟨w.heap.size + 2, 0, none⟩ ⟨w.heap.size + 3, 0, none⟩ (.int .u64 0) (.int .i64 0) (.int .i64 4)).same D _ hK rfl
    have hr4 := res3_set (x' := 0) (y' := 0) (z' := 4) hr3
    have hB4 := below3 hB ⟨w.heap.size + 1, 0, none⟩ ⟨w.heap.size + 2, 0, none⟩ ⟨w.heap.size + 3, 0, none⟩ (.int .u64 0) (.int .i64 0) (.int .i64 4) (by simp <;> omega) (by simp <;> omega) (by simp <;> omega)
    refine ⟨by simp, .inl ⟨_, _, rfl, run_takeDeferred hK', ?_⟩⟩
    obtain ⟨c1, c2, c3⟩ := hr4
    have d1 := cell_kept c1 (grownBy_putObj' _ D (.deferred none)) (fun r e => by cases e; exact ⟨_, hK', rfl⟩)
    have d2 := cell_kept c2 (grownBy_putObj' _ D (.deferred none)) (fun r e => by cases e; exact ⟨_, hK', rfl⟩)
    have d3 := cell_kept c3 (grownBy_putObj' _ D (.deferred none)) (fun r e => by cases e; exact ⟨_, hK', rfl⟩)
    refine ⟨res3 0 0 4, ?_, (by rw [hg]), hB4.trans (belowK_b (w := w) (Nat.le_refl _) _ D _ _ (by omega) hK' rfl rfl)⟩
    simp [results, Try.f30, go_sem, d1, d2, d3, res3]
  case stop =>
    rintro D c pre W hD hS ⟨⟨rfl, ini, last, e1, e2, x, y, z, he, hcr⟩, hB⟩ hK
    have hg := get_stop l l.length bs hbs (by omega) pre hS ini last e1 e2 x y z he
    gi_wp2
    obtain ⟨c1, c2, c3⟩ := hcr
    refine ⟨by simp, .inl ⟨_, _, rfl, run_takeDeferred hK, ?_⟩⟩
    have d1 := cell_kept c1 (grownBy_putObj' _ D (.deferred none)) (fun r e => by cases e; exact ⟨_, hK, rfl⟩)
    have d2 := cell_kept c2 (grownBy_putObj' _ D (.deferred none)) (fun r e => by cases e; exact ⟨_, hK, rfl⟩)
    have d3 := cell_kept c3 (grownBy_putObj' _ D (.deferred none)) (fun r e => by cases e; exact ⟨_, hK, rfl⟩)
    refine ⟨.tuple #[.int .u64 x, .int .i64 y, .int .i64 z], ?_, ?_, hB.trans (belowK_b (w := w) (Nat.le_refl _) W D _ _ (by omega) hK rfl rfl)⟩
    · simp [results, Try.f30, go_sem, d1, d2, d3]
    · rw [← hg.1, ← hg.2.1, ← hg.2.2]; rfl
end Go.Proofs.Ytdcnpkpibbefhaa

