/- The last region of a round of varint.Get: reads and stores in any order. -/
import Derived.Test.YtdcnpkpibbefhaaVarIter
import Derived.Test.YtdcnpkpibbefhaaRoundStill
namespace Go.Proofs.Ytdcnpkpibbefhaa
open Go.RowKit Go.Shelf
attribute [local go_sem] Oper.semAt_some

set_option maxHeartbeats 4000000 in
set_option maxRecDepth 20000 in
theorem get_reg13 {F : Fence} {n : Nat} {l h : Nat} {Q : Exit → Act → World → Prop} {W : World} {k a v : Int} {t0 t1 t2 t9 t10 t11 t12 t13 t14 t15 t16 t17 t18 t19 t20 t21 t22 t23 t24 t25 t26 t27 t28 t29 t30 t31 t32 t33 t34 t35 t36 t37 t38 t39 t40 t41 t42 t43 t44 t45 t46 t47 t48 t49 t50 t51 t52 : Value} {ops : Array Oper} (hops : ops = (((Try.f30.body.getD .skip).opers.drop 54).take 8).toArray)
    (hca : W.cell? ⟨h, 0, none⟩ = some (.int .i64 a)) (hcn : W.cell? ⟨h + 4, 0, none⟩ = some (.int .u64 v))
    (hc1 : W.cell? ⟨h + 1, 0, none⟩ = some (.int .u64 0)) (hc2 : W.cell? ⟨h + 2, 0, none⟩ = some (.int .i64 0)) (hc3 : W.cell? ⟨h + 3, 0, none⟩ = some (.int .i64 0))
    (hf1 : W.frozen? ⟨h + 1, 0, none⟩ = false) (hf2 : W.frozen? ⟨h + 2, 0, none⟩ = false) (hf3 : W.frozen? ⟨h + 3, 0, none⟩ = false)
    (hw1 : IntKind.i64.wrap (a + k) = a + k) (hw2 : IntKind.i64.wrap (a + k + 1) = a + k + 1)
    (hQ : ∀ a', Q .normal a' (((W.drew.setCell ⟨h + 1, 0, none⟩ (.int .u64 v)).setCell ⟨h + 2, 0, none⟩ (.int .i64 (a + k + 1))).setCell ⟨h + 3, 0, none⟩ (.int .i64 0))) :
    (Code.region 13 ops true).wpIn (F.inRound l) n Try.prog Q { tmps := #[t0, t1, t2, .pointer (some ⟨h, 0, none⟩), .pointer (some ⟨h + 1, 0, none⟩), .pointer (some ⟨h + 1 + 1, 0, none⟩), .pointer (some ⟨h + 1 + 1 + 1, 0, none⟩), .pointer (some ⟨h + 1 + 1 + 1 + 1, 0, none⟩), .int .i64 k, t9, t10, t11, t12, t13, t14, t15, t16, t17, t18, t19, t20, t21, t22, t23, t24, t25, t26, t27, t28, t29, t30, t31, t32, t33, t34, t35, t36, t37, t38, t39, t40, t41, t42, t43, t44, t45, t46, t47, t48, t49, t50, t51, t52], defers := [] } W := by
  subst hops
  have hmx : Try.prog.follows .mixedOrders = true := by kernel_rfl
  dsimp only [Try.f30, Option.getD, Code.opers, List.append, List.drop, List.take, HAppend.hAppend, Append.append]
  gi_region_with_o fail
  all_goals (try gi_wp2)
  all_goals exact hQ _
end Go.Proofs.Ytdcnpkpibbefhaa
